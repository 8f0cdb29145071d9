-- Written by xprint.py of this repo, over the kit's printer and contracts proved by hand.
import Derived.Test.YtebdcblchjhmpaaPDawBeginsx0
namespace Go.Proofs.Ytebdcblchjhmpaa.PDawBegins
open Go.RowKit Go.Proofs.YtebdcblchjhmpaaW.PrintWords Go.Proofs.YtebdcblchjhmpaaW.PrintLast Go.Proofs.YtebdcblchjhmpaaW.PrintMore Go.Proofs.Ytebdcblchjhmpaa.K Go.Proofs.Ytebdcblchjhmpaa.PDk Go.Proofs.Ytebdcblchjhmpaa.PSh14
attribute [local go_sem] max2_int min2_int max_two min_two max_three min_three max_four min_four   -- for this text's walks alone
set_option linter.unusedVariables false
set_option linter.unusedSimpArgs false

/-! ### manteletlaw14_DawBegins: function 5 -/
mutual
def manteletlaw14_DawBegins.j0 : Nat → List ByteArray → Int → Int → ByteArray → Bool → Bool → Option (Bool)
  | 0, _, _, _, _, _, _ => none
  | k + 1, x0, x1, x2, x3, x9, x31 => if x31 = true then (some x9) else ((daw_Build.f x0).bind fun bt103 => (if bt103.2 = 0 then (if (x0.length : Int) = 0 then (none) else (if 0 ≤ (Int.tmod (wrap64 (x1)) (x0.length : Int)) then (if (Int.tmod (wrap64 (x1)) (x0.length : Int)) < (x0.length : Int) then (if (wrap64 (((rdOf ByteArray.empty x0 (Int.tmod (wrap64 (x1)) (x0.length : Int))).size : Int) + 1)) = 0 then (none) else (if 0 ≤ (Int.tmod (wrap64 (x2)) (wrap64 (((rdOf ByteArray.empty x0 (Int.tmod (wrap64 (x1)) (x0.length : Int))).size : Int) + 1))) then (if (Int.tmod (wrap64 (x2)) (wrap64 (((rdOf ByteArray.empty x0 (Int.tmod (wrap64 (x1)) (x0.length : Int))).size : Int) + 1))) ≤ ((rdOf ByteArray.empty x0 (Int.tmod (wrap64 (x1)) (x0.length : Int))).size : Int) then (if (rdOf ByteArray.empty x0 (Int.tmod (wrap64 (x1)) (x0.length : Int))).size + x3.size ≤ 9223372036854775807 then (manteletlaw14_DawBegins.l0 k x0 x9 bt103.1 ((rdOf ByteArray.empty x0 (Int.tmod (wrap64 (x1)) (x0.length : Int))).extract 0 ((Int.tmod (wrap64 (x2)) (wrap64 (((rdOf ByteArray.empty x0 (Int.tmod (wrap64 (x1)) (x0.length : Int))).size : Int) + 1))) : Int).toNat) ((rdOf ByteArray.empty x0 (Int.tmod (wrap64 (x1)) (x0.length : Int))) ++ x3) false false 0) else (none)) else (none)) else (none))) else (none)) else (none))) else (some x9)))
def manteletlaw14_DawBegins.l0 : Nat → List ByteArray → Bool → List (S31) → ByteArray → ByteArray → Bool → Bool → Int → Option (Bool)
  | 0, _, _, _, _, _, _, _, _ => none
  | k + 1, x0, x9, x10, x13, x14, x15, x16, x17 => if x17 < (x0.length : Int) then (if x15 = true then (if x16 = true then (manteletlaw14_DawBegins.l0 k x0 x9 x10 x13 x14 true true (wrap64 (x17 + 1))) else (if 0 ≤ x17 then (manteletlaw14_DawBegins.l0 k x0 x9 x10 x13 x14 true ((rdOf ByteArray.empty x0 x17).toList == x14.toList) (wrap64 (x17 + 1))) else (none))) else (if 0 ≤ x17 then (if x16 = true then (manteletlaw14_DawBegins.l0 k x0 x9 x10 x13 x14 ((rdOf ByteArray.empty x0 x17).toList == x13.toList) true (wrap64 (x17 + 1))) else (manteletlaw14_DawBegins.l0 k x0 x9 x10 x13 x14 ((rdOf ByteArray.empty x0 x17).toList == x13.toList) ((rdOf ByteArray.empty x0 x17).toList == x14.toList) (wrap64 (x17 + 1)))) else (none))) else (if x9 = true then ((daw_Has.f x10 x13).bind fun t111 => (if (t111 == x15) = true then ((daw_Has.f x10 x14).bind fun t112 => (some (t112 == x16))) else (some false))) else (some false))
end
def manteletlaw14_DawBegins.f (k : Nat) (l0 : List ByteArray) (a1 : Int) (a2 : Int) (a3 : ByteArray) : Option (Bool) := (manteletlaw14_shown.f k).bind fun t101 => ((manteletlaw14_few.f k l0).bind fun t102 => (if t102 = true then (if (l0.length : Int) = 0 then (manteletlaw14_DawBegins.j0 k l0 a1 a2 a3 t101 true) else (manteletlaw14_DawBegins.j0 k l0 a1 a2 a3 t101 (decide ((a3.size : Int) > 20)))) else (manteletlaw14_DawBegins.j0 k l0 a1 a2 a3 t101 true)))
theorem manteletlaw14_DawBegins.mono_l : ∀ k, (∀ y0 y1 y2 y3 y4 y5, LeO (manteletlaw14_DawBegins.j0 k y0 y1 y2 y3 y4 y5) (manteletlaw14_DawBegins.j0 (k + 1) y0 y1 y2 y3 y4 y5)) ∧ (∀ y0 y1 y2 y3 y4 y5 y6 y7, LeO (manteletlaw14_DawBegins.l0 k y0 y1 y2 y3 y4 y5 y6 y7) (manteletlaw14_DawBegins.l0 (k + 1) y0 y1 y2 y3 y4 y5 y6 y7))
  | 0 => ⟨fun _ _ _ _ _ _ r h => by simp [manteletlaw14_DawBegins.j0] at h, fun _ _ _ _ _ _ _ _ r h => by simp [manteletlaw14_DawBegins.l0] at h⟩
  | k + 1 => by
    obtain ⟨ih0, ih1⟩ := manteletlaw14_DawBegins.mono_l k
    refine ⟨?_, ?_⟩
    · intro y0 y1 y2 y3 y4 y5
      unfold manteletlaw14_DawBegins.j0
      repeat' first
      | (with_reducible exact ih0 _ _ _ _ _ _)
      | (with_reducible exact ih1 _ _ _ _ _ _ _ _)
      | (with_reducible exact manteletlaw14_few.mono _ _)
      | (with_reducible exact manteletlaw14_shown.mono _)
      | (with_reducible exact LeO.refl _)
      | (with_reducible exact LeO.none _)
      | (with_reducible refine LeO.ite ?_ ?_)
      | (with_reducible refine LeO.bind ?_ (fun _ => ?_))
      | exact ih0 _ _ _ _ _ _
      | exact ih1 _ _ _ _ _ _ _ _
      | exact manteletlaw14_few.mono _ _
      | exact manteletlaw14_shown.mono _
      | exact LeO.none _
      | refine LeO.ite ?_ ?_
      | refine LeO.bind ?_ (fun _ => ?_)
    · intro y0 y1 y2 y3 y4 y5 y6 y7
      unfold manteletlaw14_DawBegins.l0
      repeat' first
      | (with_reducible exact ih0 _ _ _ _ _ _)
      | (with_reducible exact ih1 _ _ _ _ _ _ _ _)
      | (with_reducible exact manteletlaw14_few.mono _ _)
      | (with_reducible exact manteletlaw14_shown.mono _)
      | (with_reducible exact LeO.refl _)
      | (with_reducible exact LeO.none _)
      | (with_reducible refine LeO.ite ?_ ?_)
      | (with_reducible refine LeO.bind ?_ (fun _ => ?_))
      | exact ih0 _ _ _ _ _ _
      | exact ih1 _ _ _ _ _ _ _ _
      | exact manteletlaw14_few.mono _ _
      | exact manteletlaw14_shown.mono _
      | exact LeO.none _
      | refine LeO.ite ?_ ?_
      | refine LeO.bind ?_ (fun _ => ?_)
theorem manteletlaw14_DawBegins.mono : ∀ a0 a1 a2 a3 k, LeO (manteletlaw14_DawBegins.f k a0 a1 a2 a3) (manteletlaw14_DawBegins.f (k + 1) a0 a1 a2 a3) := by
  intro a0 a1 a2 a3 k
  obtain ⟨ih0, ih1⟩ := manteletlaw14_DawBegins.mono_l k
  unfold manteletlaw14_DawBegins.f
  repeat' first
      | (with_reducible exact ih0 _ _ _ _ _ _)
      | (with_reducible exact ih1 _ _ _ _ _ _ _ _)
      | (with_reducible exact manteletlaw14_few.mono _ _)
      | (with_reducible exact manteletlaw14_shown.mono _)
      | (with_reducible exact LeO.refl _)
      | (with_reducible exact LeO.none _)
      | (with_reducible refine LeO.ite ?_ ?_)
      | (with_reducible refine LeO.bind ?_ (fun _ => ?_))
      | exact ih0 _ _ _ _ _ _
      | exact ih1 _ _ _ _ _ _ _ _
      | exact manteletlaw14_few.mono _ _
      | exact manteletlaw14_shown.mono _
      | exact LeO.none _
      | refine LeO.ite ?_ ?_
      | refine LeO.bind ?_ (fun _ => ?_)
set_option maxHeartbeats 8000000 in
set_option maxRecDepth 100000 in
theorem manteletlaw14_DawBegins.calls (k : Nat) (A0 : Option Addr) (c0 : Nat) (l0 : List ByteArray) (a1 : Int) (a2 : Int) (a3 : ByteArray) (r : Bool) (w : World) (hr0 : Kd.C Kd.string w A0 l0.length l0) (hc0 : l0.length ≤ c0) (h : manteletlaw14_DawBegins.f k l0 a1 a2 a3 = some r) :
    Calls Try.prog 5 #[.slice A0 l0.length c0, .int .u8 a1, .int .u8 a2, .string a3] w fun e w' => e = .returned (.bool r) ∧ Below w.heap.size w w' := by
  have HR0 := Aside0.mk hr0
  have HC0 := Aside0.mk hc0
  clear hr0 hc0
  have HB := Aside0.mk (Below.refl w.heap.size w)
  have H : ((manteletlaw14_shown.f k).bind fun t101 => ((manteletlaw14_few.f k l0).bind fun t102 => (if t102 = true then (if (l0.length : Int) = 0 then (manteletlaw14_DawBegins.j0 k l0 a1 a2 a3 t101 true) else (manteletlaw14_DawBegins.j0 k l0 a1 a2 a3 t101 (decide ((a3.size : Int) > 20)))) else (manteletlaw14_DawBegins.j0 k l0 a1 a2 a3 t101 true)))) = some r := h
  clear h
  replace H := Option.bind_eq_some_iff.mp H
  obtain ⟨t101, A50, H⟩ := H
  replace H : ((manteletlaw14_few.f k l0).bind fun t102 => (if t102 = true then (if (l0.length : Int) = 0 then (manteletlaw14_DawBegins.j0 k l0 a1 a2 a3 t101 true) else (manteletlaw14_DawBegins.j0 k l0 a1 a2 a3 t101 (decide ((a3.size : Int) > 20)))) else (manteletlaw14_DawBegins.j0 k l0 a1 a2 a3 t101 true))) = some r := H
  have A5 := Aside0.mk A50
  clear A50
  have HC6 := Aside0.mk H
  clear H
  go_enter Try.func5, Try.ntmps5
  go_upto_region 2 with (first | ((with_reducible refine gate_callee (f := 13) rfl ?_); refine goesL_ (some 18) rfl rfl Try.func13 (by kernel_rfl) rfl #[] rfl (by (try simp only [List.map_toArray, List.map_cons, List.map_nil]); first | done | rfl | (simp only [List.length_drop, List.length_take]; rfl)) ?_; (with_reducible refine (manteletlaw14_shown.calls k  t101 _ A5.out).mono ?_); rintro e w7 ⟨rfl, hb⟩; refine ⟨_, rfl, ?_⟩; have n0_ := Aside0.mk (below_step (by repeat (first | (with_reducible first | exact HB.out | apply below_alloc | apply pw_below_drewN | apply below_drew1) | exact HB.out)) hb); clear HB; have HB := n0_; clear n0_; (try clear hb); (try clear hb2); (try clear hk); (try clear hi)))
  (try simp only [Act.put, List.setIfInBounds_toArray, List.set_cons_zero, List.set_cons_succ])
  go_cut [31] (fun v31 wc => ∃ (kq : Nat) (x31_5 : Bool), v31 = .bool x31_5 ∧ Aside0 (manteletlaw14_DawBegins.j0 kq l0 a1 a2 a3 t101 x31_5 = some r) ∧ Aside0 (kq ≤ k) ∧ Aside0 (Below w.heap.size w wc))
  case first =>
    have H := HC6.out
    clear HC6
    replace H := Option.bind_eq_some_iff.mp H
    obtain ⟨t102, A80, H⟩ := H
    replace H : (if t102 = true then (if (l0.length : Int) = 0 then (manteletlaw14_DawBegins.j0 k l0 a1 a2 a3 t101 true) else (manteletlaw14_DawBegins.j0 k l0 a1 a2 a3 t101 (decide ((a3.size : Int) > 20)))) else (manteletlaw14_DawBegins.j0 k l0 a1 a2 a3 t101 true)) = some r := H
    have A8 := Aside0.mk A80
    clear A80
    by_cases c9 : t102 = true
    · subst c9
      have H1 : (if (l0.length : Int) = 0 then (manteletlaw14_DawBegins.j0 k l0 a1 a2 a3 t101 true) else (manteletlaw14_DawBegins.j0 k l0 a1 a2 a3 t101 (decide ((a3.size : Int) > 20)))) = some r := by rw [if_pos rfl] at H; exact H
      clear H
      have H := H1
      clear H1
      by_cases c10 : (l0.length : Int) = 0
      · rw [if_pos c10] at H
        have c10b0 : ((l0.length : Int) == 0) = true := beq_iff_eq.mpr c10
        have c10b1 : ((l0.length : Int) != 0) = false := bne_eq_false_iff_eq.mpr c10
        clear c10
        (first | rw [c10b0] | (simp only [i64_w, i32_w]; rw [c10b0]) | skip)
        have H' := Aside0.mk H
        clear H
        go_wp2_with (first | ((with_reducible refine gate_callee (f := 14) rfl ?_); refine goesL_ (some 20) rfl rfl Try.func14 (by kernel_rfl) rfl #[.slice A0 l0.length c0] rfl (by (try simp only [List.map_toArray, List.map_cons, List.map_nil]); first | done | rfl | (simp only [List.length_drop, List.length_take]; rfl)) ?_; (with_reducible refine (manteletlaw14_few.calls k _ _ l0 true _ ?side1 ?side2 A8.out).mono ?_); (case side1 => repeat (first | exact (Kd.C_below HR0.out HB.out) | (with_reducible refine Kd.C_alloc ?_ _) | (with_reducible refine Kd.C_drewN ?_ _) | (with_reducible refine Kd.C_drew ?_))); (case side2 => exact HC0.out); rintro e w' ⟨rfl, ⟨nd, rfl⟩⟩; refine ⟨_, rfl, ?_⟩))
        go_meet
        case rel => exact ⟨_, (true), (by first | rfl | (simp; done) | (simp [*]; done)), H', ⟨by first | omega | exact Nat.le_refl _⟩, ⟨by repeat (first | (with_reducible first | exact HB.out | apply below_alloc | apply pw_below_drewN | apply below_drew1) | exact HB.out)⟩⟩
      · rw [if_neg c10] at H
        have c10b0 : ((l0.length : Int) == 0) = false := beq_eq_false_iff_ne.mpr c10
        have c10b1 : ((l0.length : Int) != 0) = true := bne_iff_ne.mpr c10
        have c10b2 : ¬ (l0 = []) := fun h_ => c10 (by rw [h_]; rfl)
        (first | rw [c10b0] | (simp only [i64_w, i32_w]; rw [c10b0]) | skip)
        have H' := Aside0.mk H
        clear H
        go_wp2_with (first | ((with_reducible refine gate_callee (f := 14) rfl ?_); refine goesL_ (some 20) rfl rfl Try.func14 (by kernel_rfl) rfl #[.slice A0 l0.length c0] rfl (by (try simp only [List.map_toArray, List.map_cons, List.map_nil]); first | done | rfl | (simp only [List.length_drop, List.length_take]; rfl)) ?_; (with_reducible refine (manteletlaw14_few.calls k _ _ l0 true _ ?side1 ?side2 A8.out).mono ?_); (case side1 => repeat (first | exact (Kd.C_below HR0.out HB.out) | (with_reducible refine Kd.C_alloc ?_ _) | (with_reducible refine Kd.C_drewN ?_ _) | (with_reducible refine Kd.C_drew ?_))); (case side2 => exact HC0.out); rintro e w' ⟨rfl, ⟨nd, rfl⟩⟩; refine ⟨_, rfl, ?_⟩))
        go_meet
        case rel => exact ⟨_, (decide ((a3.size : Int) > 20)), (by first | rfl | (simp; done) | (simp [*]; done)), H', ⟨by first | omega | exact Nat.le_refl _⟩, ⟨by repeat (first | (with_reducible first | exact HB.out | apply below_alloc | apply pw_below_drewN | apply below_drew1) | exact HB.out)⟩⟩
    · replace c9 := Bool.eq_false_iff.mpr c9
      subst c9
      have H1 : (manteletlaw14_DawBegins.j0 k l0 a1 a2 a3 t101 true) = some r := by rw [if_neg (show ¬ (false = true) by decide)] at H; exact H
      clear H
      have H := H1
      clear H1
      have H' := Aside0.mk H
      clear H
      go_wp2_with (first | ((with_reducible refine gate_callee (f := 14) rfl ?_); refine goesL_ (some 20) rfl rfl Try.func14 (by kernel_rfl) rfl #[.slice A0 l0.length c0] rfl (by (try simp only [List.map_toArray, List.map_cons, List.map_nil]); first | done | rfl | (simp only [List.length_drop, List.length_take]; rfl)) ?_; (with_reducible refine (manteletlaw14_few.calls k _ _ l0 false _ ?side1 ?side2 A8.out).mono ?_); (case side1 => repeat (first | exact (Kd.C_below HR0.out HB.out) | (with_reducible refine Kd.C_alloc ?_ _) | (with_reducible refine Kd.C_drewN ?_ _) | (with_reducible refine Kd.C_drew ?_))); (case side2 => exact HC0.out); rintro e w' ⟨rfl, ⟨nd, rfl⟩⟩; refine ⟨_, rfl, ?_⟩))
      go_meet
      case rel => exact ⟨_, (true), (by first | rfl | (simp; done) | (simp [*]; done)), H', ⟨by first | omega | exact Nat.le_refl _⟩, ⟨by repeat (first | (with_reducible first | exact HB.out | apply below_alloc | apply pw_below_drewN | apply below_drew1) | exact HB.out)⟩⟩
  case rest =>
    clear HC6
    try clear c1
    try clear p2
    try clear c5
    try clear c9
    try clear c10
    try clear c10b0
    try clear c10b1
    try clear c10b2
    obtain ⟨kq, x31_5, rfl, HA, HJ5, HB⟩ := hcut
    cases kq with
    | zero => exact absurd HA.out (by simp [manteletlaw14_DawBegins.j0])
    | succ kj5 =>
      have H := HA.out
      clear HA
      simp only [manteletlaw14_DawBegins.j0] at H
      by_cases c11 : x31_5 = true
      · subst c11
        have H1 : (some t101) = some r := by rw [if_pos rfl] at H; exact H
        clear H
        have H := H1
        clear H1
        obtain rfl := Option.some.inj H
        go_wp2
        go_ret
        exact ⟨by first | rfl | (simp [errW_none, errW_some] <;> rfl) | (simp [*, errW_none, errW_some] <;> rfl), by repeat (first | (with_reducible first | exact HB.out | apply below_alloc | apply pw_below_drewN | apply below_drew1) | exact HB.out)⟩
      · replace c11 := Bool.eq_false_iff.mpr c11
        subst c11
        have H1 : ((daw_Build.f l0).bind fun bt103 => (if bt103.2 = 0 then (if (l0.length : Int) = 0 then (none) else (if 0 ≤ (Int.tmod (wrap64 (a1)) (l0.length : Int)) then (if (Int.tmod (wrap64 (a1)) (l0.length : Int)) < (l0.length : Int) then (if (wrap64 (((rdOf ByteArray.empty l0 (Int.tmod (wrap64 (a1)) (l0.length : Int))).size : Int) + 1)) = 0 then (none) else (if 0 ≤ (Int.tmod (wrap64 (a2)) (wrap64 (((rdOf ByteArray.empty l0 (Int.tmod (wrap64 (a1)) (l0.length : Int))).size : Int) + 1))) then (if (Int.tmod (wrap64 (a2)) (wrap64 (((rdOf ByteArray.empty l0 (Int.tmod (wrap64 (a1)) (l0.length : Int))).size : Int) + 1))) ≤ ((rdOf ByteArray.empty l0 (Int.tmod (wrap64 (a1)) (l0.length : Int))).size : Int) then (if (rdOf ByteArray.empty l0 (Int.tmod (wrap64 (a1)) (l0.length : Int))).size + a3.size ≤ 9223372036854775807 then (manteletlaw14_DawBegins.l0 kj5 l0 t101 bt103.1 ((rdOf ByteArray.empty l0 (Int.tmod (wrap64 (a1)) (l0.length : Int))).extract 0 ((Int.tmod (wrap64 (a2)) (wrap64 (((rdOf ByteArray.empty l0 (Int.tmod (wrap64 (a1)) (l0.length : Int))).size : Int) + 1))) : Int).toNat) ((rdOf ByteArray.empty l0 (Int.tmod (wrap64 (a1)) (l0.length : Int))) ++ a3) false false 0) else (none)) else (none)) else (none))) else (none)) else (none))) else (some t101))) = some r := by rw [if_neg (show ¬ (false = true) by decide)] at H; exact H
        clear H
        have H := H1
        clear H1
        replace H := Option.bind_eq_some_iff.mp H
        obtain ⟨⟨t103, t104⟩, A120, H⟩ := H
        replace H : (if t104 = 0 then (if (l0.length : Int) = 0 then (none) else (if 0 ≤ (Int.tmod (wrap64 (a1)) (l0.length : Int)) then (if (Int.tmod (wrap64 (a1)) (l0.length : Int)) < (l0.length : Int) then (if (wrap64 (((rdOf ByteArray.empty l0 (Int.tmod (wrap64 (a1)) (l0.length : Int))).size : Int) + 1)) = 0 then (none) else (if 0 ≤ (Int.tmod (wrap64 (a2)) (wrap64 (((rdOf ByteArray.empty l0 (Int.tmod (wrap64 (a1)) (l0.length : Int))).size : Int) + 1))) then (if (Int.tmod (wrap64 (a2)) (wrap64 (((rdOf ByteArray.empty l0 (Int.tmod (wrap64 (a1)) (l0.length : Int))).size : Int) + 1))) ≤ ((rdOf ByteArray.empty l0 (Int.tmod (wrap64 (a1)) (l0.length : Int))).size : Int) then (if (rdOf ByteArray.empty l0 (Int.tmod (wrap64 (a1)) (l0.length : Int))).size + a3.size ≤ 9223372036854775807 then (manteletlaw14_DawBegins.l0 kj5 l0 t101 t103 ((rdOf ByteArray.empty l0 (Int.tmod (wrap64 (a1)) (l0.length : Int))).extract 0 ((Int.tmod (wrap64 (a2)) (wrap64 (((rdOf ByteArray.empty l0 (Int.tmod (wrap64 (a1)) (l0.length : Int))).size : Int) + 1))) : Int).toNat) ((rdOf ByteArray.empty l0 (Int.tmod (wrap64 (a1)) (l0.length : Int))) ++ a3) false false 0) else (none)) else (none)) else (none))) else (none)) else (none))) else (some t101)) = some r := H
        have A12 := Aside0.mk A120
        clear A120
        by_cases c13 : t104 = 0
        · rw [if_pos c13] at H
          have c13b0 : (t104 == 0) = true := beq_iff_eq.mpr c13
          have c13b1 : (t104 != 0) = false := bne_eq_false_iff_eq.mpr c13
          clear c13
          by_cases c14 : (l0.length : Int) = 0
          · rw [if_pos c14] at H
            exact absurd H (by simp)
          · rw [if_neg c14] at H
            have c14b0 : ((l0.length : Int) == 0) = false := beq_eq_false_iff_ne.mpr c14
            have c14b1 : ((l0.length : Int) != 0) = true := bne_iff_ne.mpr c14
            have c14b2 : ¬ (l0 = []) := fun h_ => c14 (by rw [h_]; rfl)
            obtain ⟨ji15, hji15⟩ : ∃ j_ : Int, (Int.tmod (wrap64 (a1)) (l0.length : Int)) = j_ := ⟨_, rfl⟩
            replace H : (if 0 ≤ (ji15) then (if (ji15) < (l0.length : Int) then (if (wrap64 (((rdOf ByteArray.empty l0 (ji15)).size : Int) + 1)) = 0 then (none) else (if 0 ≤ (Int.tmod (wrap64 (a2)) (wrap64 (((rdOf ByteArray.empty l0 (ji15)).size : Int) + 1))) then (if (Int.tmod (wrap64 (a2)) (wrap64 (((rdOf ByteArray.empty l0 (ji15)).size : Int) + 1))) ≤ ((rdOf ByteArray.empty l0 (ji15)).size : Int) then (if (rdOf ByteArray.empty l0 (ji15)).size + a3.size ≤ 9223372036854775807 then (manteletlaw14_DawBegins.l0 kj5 l0 t101 t103 ((rdOf ByteArray.empty l0 (ji15)).extract 0 ((Int.tmod (wrap64 (a2)) (wrap64 (((rdOf ByteArray.empty l0 (ji15)).size : Int) + 1))) : Int).toNat) ((rdOf ByteArray.empty l0 (ji15)) ++ a3) false false 0) else (none)) else (none)) else (none))) else (none)) else (none)) = some r := by first | (rw [hji15] at H; exact H) | (simp only [hji15] at H ⊢; exact H)
            (try rw [hji15] at A12)
            by_cases c16 : 0 ≤ (ji15)
            · rw [if_pos c16] at H
              have c16b0 : decide (0 ≤ (ji15)) = true := decide_eq_true c16
              clear c16
              by_cases c17 : (ji15) < (l0.length : Int)
              · rw [if_pos c17] at H
                have c17b0 : decide ((ji15) < (l0.length : Int)) = true := decide_eq_true c17
                clear c17
                by_cases c18 : (wrap64 (((rdOf ByteArray.empty l0 (ji15)).size : Int) + 1)) = 0
                · rw [if_pos c18] at H
                  exact absurd H (by simp)
                · rw [if_neg c18] at H
                  have c18b0 : ((wrap64 (((rdOf ByteArray.empty l0 (ji15)).size : Int) + 1)) == 0) = false := beq_eq_false_iff_ne.mpr c18
                  have c18b1 : ((wrap64 (((rdOf ByteArray.empty l0 (ji15)).size : Int) + 1)) != 0) = true := bne_iff_ne.mpr c18
                  obtain ⟨ji19, hji19⟩ : ∃ j_ : Int, (Int.tmod (wrap64 (a2)) (wrap64 (((rdOf ByteArray.empty l0 (ji15)).size : Int) + 1))) = j_ := ⟨_, rfl⟩
                  replace H : (if 0 ≤ (ji19) then (if (ji19) ≤ ((rdOf ByteArray.empty l0 (ji15)).size : Int) then (if (rdOf ByteArray.empty l0 (ji15)).size + a3.size ≤ 9223372036854775807 then (manteletlaw14_DawBegins.l0 kj5 l0 t101 t103 ((rdOf ByteArray.empty l0 (ji15)).extract 0 ((ji19) : Int).toNat) ((rdOf ByteArray.empty l0 (ji15)) ++ a3) false false 0) else (none)) else (none)) else (none)) = some r := by first | (rw [hji19] at H; exact H) | (simp only [hji19] at H ⊢; exact H)
                  (try rw [hji19] at A12)
                  by_cases c20 : 0 ≤ (ji19)
                  · rw [if_pos c20] at H
                    have c20b0 := eq_true c20
                    have c20b1 : decide (0 ≤ (ji19)) = true := decide_eq_true c20
                    clear c20
                    by_cases c21 : (ji19) ≤ ((rdOf ByteArray.empty l0 (ji15)).size : Int)
                    · rw [if_pos c21] at H
                      have c21b0 := eq_true c21
                      have c21b1 : decide ((ji19) ≤ ((rdOf ByteArray.empty l0 (ji15)).size : Int)) = true := decide_eq_true c21
                      clear c21
                      by_cases c22 : (rdOf ByteArray.empty l0 (ji15)).size + a3.size ≤ 9223372036854775807
                      · rw [if_pos c22] at H
                        have c22b0 := eq_true c22
                        have c22b1 : decide ((rdOf ByteArray.empty l0 (ji15)).size + a3.size ≤ 9223372036854775807) = true := decide_eq_true c22
                        try have c22b2 : (9223372036854775807 < (rdOf ByteArray.empty l0 (ji15)).size + a3.size) = False := eq_false (Nat.not_lt.2 c22)
                        have H' := Aside0.mk H
                        clear H
                        go_wp2_with (first | ((with_reducible refine gate_callee (f := 15) rfl ?_); refine goesL_ (some 35) rfl rfl Try.func15 (by kernel_rfl) rfl #[.slice A0 l0.length c0] rfl (by (try simp only [List.map_toArray, List.map_cons, List.map_nil]); first | done | rfl | (simp only [List.length_drop, List.length_take]; rfl)) ?_; (with_reducible refine (daw_Build.calls _ _ l0 t103 t104 _ ?side1 ?side2 A12.out).mono ?_); (case side1 => repeat (first | exact (Kd.C_below HR0.out HB.out) | (with_reducible refine Kd.C_alloc ?_ _) | (with_reducible refine Kd.C_drewN ?_ _) | (with_reducible refine Kd.C_drew ?_))); (case side2 => exact HC0.out); rintro e w23 ⟨v105, rfl, ho0, hb⟩; refine ⟨_, rfl, ?_⟩; have n0_ := Aside0.mk (Kd.S_lower ho0 (below_size (by repeat (first | (with_reducible first | exact HB.out | apply below_alloc | apply pw_below_drewN | apply below_drew1) | exact HB.out)))); have n1_ := Aside0.mk (below_step (by repeat (first | (with_reducible first | exact HB.out | apply below_alloc | apply pw_below_drewN | apply below_drew1) | exact HB.out)) hb); clear HB; have HO106 := n0_; have HB := n1_; clear n0_ n1_; (try clear hb); (try clear hb2); (try clear hk); (try clear hi); (try clear ho0); have p107 : 0 ≤ ((ji15) : Int) := of_decide_eq_true (by first | (with_reducible assumption) | assumption); have q107 : (ji15) < (l0.length : Int) := of_decide_eq_true (by first | (with_reducible assumption) | assumption); obtain ⟨ad107, e107, hx107_0⟩ := Kd.at_string HR0.out (ji15) p107 q107; cases e107; replace hx107_0 := (HB.out.cell (World.block_lt_of_cell? w _ hx107_0)).trans hx107_0; replace p107 := eq_true p107; replace q107 := eq_true q107))
                        go_loopg [15, 16, 17] kj5 (fun kq v15 v16 v17 w' => ∃ (x15_2 : Bool) (x16_2 : Bool) (x17_2 : Int), v15 = .bool x15_2 ∧ v16 = .bool x16_2 ∧ v17 = .int .i64 x17_2 ∧ Aside0 (manteletlaw14_DawBegins.l0 kq l0 t101 t103 ((rdOf ByteArray.empty l0 (ji15)).extract 0 ((ji19) : Int).toNat) ((rdOf ByteArray.empty l0 (ji15)) ++ a3) x15_2 x16_2 x17_2 = some r) ∧ Aside0 (kq ≤ kj5) ∧ Aside0 (Kd.S k31 31 w' w.heap.size (fun _ => True) v105 t103) ∧ Aside0 (Below w.heap.size w w'))
                        case atStart => exact ⟨(false), (false), (0), (by first | rfl | (simp; done) | (simp [*]; done)), (by first | rfl | (simp; done) | (simp [*]; done)), (by first | rfl | (simp; done) | (simp [*]; done)), H', ⟨Nat.le_refl _⟩, ⟨by (with_reducible repeat (first | apply Kd.S_alloc | apply Kd.S_drewN | apply Kd.S_drew)); exact HO106.out⟩, ⟨by repeat (first | (with_reducible first | exact HB.out | apply below_alloc | apply pw_below_drewN | apply below_drew1) | exact HB.out)⟩⟩
                        case round =>
                          clear H'
                          try clear c1
                          try clear p1
                          try clear q1
                          try clear hx1
                          try clear c2
                          try clear p2
                          try clear c5
                          try clear p6
                          try clear c9
                          try clear c10
                          try clear c10b0
                          try clear c10b1
                          try clear c10b2
                          try clear p10
                          try clear q10
                          try clear hx10
                          try clear c11
                          try clear c13
                          try clear c13b0
                          try clear c13b1
                          try clear c14
                          try clear c14b0
                          try clear c14b1
                          try clear c14b2
                          try clear c15
                          try clear c16
                          try clear c16b0
                          try clear c17
                          try clear c17b0
                          try clear c18
                          try clear c18b0
                          try clear c18b1
                          try clear c20
                          try clear c20b0
                          try clear c20b1
                          try clear c21
                          try clear c21b0
                          try clear c21b1
                          try clear c22
                          try clear c22b0
                          try clear c22b1
                          try clear c22b2
                          try clear hx107_0
                          try clear p107
                          try clear p2
                          try clear q107
                          obtain ⟨x15_2, x16_2, x17_2, rfl, rfl, rfl, HA, HK2, HO_10, HB⟩ := hrel
                          cases gk with
                          | zero => exact absurd HA.out (by simp [manteletlaw14_DawBegins.l0])
                          | succ k2 =>
                            have H := HA.out
                            clear HA
                            simp only [manteletlaw14_DawBegins.l0] at H
                            by_cases c24 : x17_2 < (l0.length : Int)
                            · rw [if_pos c24] at H
                              have c24b0 : decide (x17_2 < (l0.length : Int)) = true := decide_eq_true c24
                              clear c24
                              by_cases c25 : x15_2 = true
                              · subst c25
                                have H1 : (if x16_2 = true then (manteletlaw14_DawBegins.l0 k2 l0 t101 t103 ((rdOf ByteArray.empty l0 (ji15)).extract 0 ((ji19) : Int).toNat) ((rdOf ByteArray.empty l0 (ji15)) ++ a3) true true (wrap64 (x17_2 + 1))) else (if 0 ≤ x17_2 then (manteletlaw14_DawBegins.l0 k2 l0 t101 t103 ((rdOf ByteArray.empty l0 (ji15)).extract 0 ((ji19) : Int).toNat) ((rdOf ByteArray.empty l0 (ji15)) ++ a3) true ((rdOf ByteArray.empty l0 x17_2).toList == ((rdOf ByteArray.empty l0 (ji15)) ++ a3).toList) (wrap64 (x17_2 + 1))) else (none))) = some r := by rw [if_pos rfl] at H; exact H
                                clear H
                                have H := H1
                                clear H1
                                by_cases c26 : x16_2 = true
                                · subst c26
                                  have H1 : (manteletlaw14_DawBegins.l0 k2 l0 t101 t103 ((rdOf ByteArray.empty l0 (ji15)).extract 0 ((ji19) : Int).toNat) ((rdOf ByteArray.empty l0 (ji15)) ++ a3) true true (wrap64 (x17_2 + 1))) = some r := by rw [if_pos rfl] at H; exact H
                                  clear H
                                  have H := H1
                                  clear H1
                                  have H' := Aside0.mk H
                                  clear H
                                  go_wp2
                                  go_roundg k2
                                  case measure => have := HJ5.out; have := HK2.out; omega
                                  case rel => exact ⟨(true), (true), (wrap64 (x17_2 + 1)), (by first | rfl | (simp; done) | (simp [*]; done)), (by first | rfl | (simp; done) | (simp [*]; done)), (by first | rfl | (simp; done) | (simp [*]; done)), H', ⟨by have := HJ5.out; have := HK2.out; omega⟩, ⟨by (with_reducible repeat (first | apply Kd.S_alloc | apply Kd.S_drewN | apply Kd.S_drew)); exact HO_10.out⟩, ⟨by repeat (first | (with_reducible first | exact HB.out | apply below_alloc | apply pw_below_drewN | apply below_drew1) | exact HB.out)⟩⟩
                                · replace c26 := Bool.eq_false_iff.mpr c26
                                  subst c26
                                  have H1 : (if 0 ≤ x17_2 then (manteletlaw14_DawBegins.l0 k2 l0 t101 t103 ((rdOf ByteArray.empty l0 (ji15)).extract 0 ((ji19) : Int).toNat) ((rdOf ByteArray.empty l0 (ji15)) ++ a3) true ((rdOf ByteArray.empty l0 x17_2).toList == ((rdOf ByteArray.empty l0 (ji15)) ++ a3).toList) (wrap64 (x17_2 + 1))) else (none)) = some r := by rw [if_neg (show ¬ (false = true) by decide)] at H; exact H
                                  clear H
                                  have H := H1
                                  clear H1
                                  by_cases c27 : 0 ≤ x17_2
                                  · rw [if_pos c27] at H
                                    have c27b0 : decide (0 ≤ x17_2) = true := decide_eq_true c27
                                    clear c27
                                    have H' := Aside0.mk H
                                    clear H
                                    have p108 : 0 ≤ (x17_2 : Int) := of_decide_eq_true (by first | (with_reducible assumption) | assumption)
                                    have q108 : x17_2 < (l0.length : Int) := of_decide_eq_true (by first | (with_reducible assumption) | assumption)
                                    obtain ⟨ad108, e108, hx108_0⟩ := Kd.at_string HR0.out x17_2 p108 q108
                                    obtain rfl : ad107 = ad108 := (by injection e108)
                                    replace hx108_0 := (HB.out.cell (World.block_lt_of_cell? w _ hx108_0)).trans hx108_0
                                    replace p108 := eq_true p108
                                    replace q108 := eq_true q108
                                    go_wp2
                                    go_roundg k2
                                    case measure => have := HJ5.out; have := HK2.out; omega
                                    case rel => exact ⟨(true), (((rdOf ByteArray.empty l0 x17_2).toList == ((rdOf ByteArray.empty l0 (ji15)) ++ a3).toList)), (wrap64 (x17_2 + 1)), (by first | rfl | (simp; done) | (simp [*]; done)), (by first | rfl | (simp; done) | (simp only [← hji15] <;> (first | rfl | simp)) | (simp [*]; done)), (by first | rfl | (simp; done) | (simp [*]; done)), H', ⟨by have := HJ5.out; have := HK2.out; omega⟩, ⟨by (with_reducible repeat (first | apply Kd.S_alloc | apply Kd.S_drewN | apply Kd.S_drew)); exact HO_10.out⟩, ⟨by repeat (first | (with_reducible first | exact HB.out | apply below_alloc | apply pw_below_drewN | apply below_drew1) | exact HB.out)⟩⟩
                                  · rw [if_neg c27] at H
                                    exact absurd H (by simp)
                              · replace c25 := Bool.eq_false_iff.mpr c25
                                subst c25
                                have H1 : (if 0 ≤ x17_2 then (if x16_2 = true then (manteletlaw14_DawBegins.l0 k2 l0 t101 t103 ((rdOf ByteArray.empty l0 (ji15)).extract 0 ((ji19) : Int).toNat) ((rdOf ByteArray.empty l0 (ji15)) ++ a3) ((rdOf ByteArray.empty l0 x17_2).toList == ((rdOf ByteArray.empty l0 (ji15)).extract 0 ((ji19) : Int).toNat).toList) true (wrap64 (x17_2 + 1))) else (manteletlaw14_DawBegins.l0 k2 l0 t101 t103 ((rdOf ByteArray.empty l0 (ji15)).extract 0 ((ji19) : Int).toNat) ((rdOf ByteArray.empty l0 (ji15)) ++ a3) ((rdOf ByteArray.empty l0 x17_2).toList == ((rdOf ByteArray.empty l0 (ji15)).extract 0 ((ji19) : Int).toNat).toList) ((rdOf ByteArray.empty l0 x17_2).toList == ((rdOf ByteArray.empty l0 (ji15)) ++ a3).toList) (wrap64 (x17_2 + 1)))) else (none)) = some r := by rw [if_neg (show ¬ (false = true) by decide)] at H; exact H
                                clear H
                                have H := H1
                                clear H1
                                by_cases c28 : 0 ≤ x17_2
                                · rw [if_pos c28] at H
                                  have c28b0 : decide (0 ≤ x17_2) = true := decide_eq_true c28
                                  clear c28
                                  by_cases c29 : x16_2 = true
                                  · subst c29
                                    have H1 : (manteletlaw14_DawBegins.l0 k2 l0 t101 t103 ((rdOf ByteArray.empty l0 (ji15)).extract 0 ((ji19) : Int).toNat) ((rdOf ByteArray.empty l0 (ji15)) ++ a3) ((rdOf ByteArray.empty l0 x17_2).toList == ((rdOf ByteArray.empty l0 (ji15)).extract 0 ((ji19) : Int).toNat).toList) true (wrap64 (x17_2 + 1))) = some r := by rw [if_pos rfl] at H; exact H
                                    clear H
                                    have H := H1
                                    clear H1
                                    have H' := Aside0.mk H
                                    clear H
                                    have p109 : 0 ≤ (x17_2 : Int) := of_decide_eq_true (by first | (with_reducible assumption) | assumption)
                                    have q109 : x17_2 < (l0.length : Int) := of_decide_eq_true (by first | (with_reducible assumption) | assumption)
                                    obtain ⟨ad109, e109, hx109_0⟩ := Kd.at_string HR0.out x17_2 p109 q109
                                    obtain rfl : ad107 = ad109 := (by injection e109)
                                    replace hx109_0 := (HB.out.cell (World.block_lt_of_cell? w _ hx109_0)).trans hx109_0
                                    replace p109 := eq_true p109
                                    replace q109 := eq_true q109
                                    go_wp2
                                    go_roundg k2
                                    case measure => have := HJ5.out; have := HK2.out; omega
                                    case rel => exact ⟨(((rdOf ByteArray.empty l0 x17_2).toList == ((rdOf ByteArray.empty l0 (ji15)).extract 0 ((ji19) : Int).toNat).toList)), (true), (wrap64 (x17_2 + 1)), (by first | rfl | (simp; done) | (simp only [← hji15, ← hji19] <;> (first | rfl | simp)) | (simp [*]; done)), (by first | rfl | (simp; done) | (simp [*]; done)), (by first | rfl | (simp; done) | (simp [*]; done)), H', ⟨by have := HJ5.out; have := HK2.out; omega⟩, ⟨by (with_reducible repeat (first | apply Kd.S_alloc | apply Kd.S_drewN | apply Kd.S_drew)); exact HO_10.out⟩, ⟨by repeat (first | (with_reducible first | exact HB.out | apply below_alloc | apply pw_below_drewN | apply below_drew1) | exact HB.out)⟩⟩
                                  · replace c29 := Bool.eq_false_iff.mpr c29
                                    subst c29
                                    have H1 : (manteletlaw14_DawBegins.l0 k2 l0 t101 t103 ((rdOf ByteArray.empty l0 (ji15)).extract 0 ((ji19) : Int).toNat) ((rdOf ByteArray.empty l0 (ji15)) ++ a3) ((rdOf ByteArray.empty l0 x17_2).toList == ((rdOf ByteArray.empty l0 (ji15)).extract 0 ((ji19) : Int).toNat).toList) ((rdOf ByteArray.empty l0 x17_2).toList == ((rdOf ByteArray.empty l0 (ji15)) ++ a3).toList) (wrap64 (x17_2 + 1))) = some r := by rw [if_neg (show ¬ (false = true) by decide)] at H; exact H
                                    clear H
                                    have H := H1
                                    clear H1
                                    have H' := Aside0.mk H
                                    clear H
                                    have p109 : 0 ≤ (x17_2 : Int) := of_decide_eq_true (by first | (with_reducible assumption) | assumption)
                                    have q109 : x17_2 < (l0.length : Int) := of_decide_eq_true (by first | (with_reducible assumption) | assumption)
                                    obtain ⟨ad109, e109, hx109_0⟩ := Kd.at_string HR0.out x17_2 p109 q109
                                    obtain rfl : ad107 = ad109 := (by injection e109)
                                    replace hx109_0 := (HB.out.cell (World.block_lt_of_cell? w _ hx109_0)).trans hx109_0
                                    replace p109 := eq_true p109
                                    replace q109 := eq_true q109
                                    have p110 : 0 ≤ (x17_2 : Int) := of_decide_eq_true (by first | (with_reducible assumption) | assumption)
                                    have q110 : x17_2 < (l0.length : Int) := of_decide_eq_true (by first | (with_reducible assumption) | assumption)
                                    obtain ⟨ad110, e110, hx110_0⟩ := Kd.at_string HR0.out x17_2 p110 q110
                                    obtain rfl : ad107 = ad110 := (by injection e110)
                                    replace hx110_0 := (HB.out.cell (World.block_lt_of_cell? w _ hx110_0)).trans hx110_0
                                    replace p110 := eq_true p110
                                    replace q110 := eq_true q110
                                    go_wp2
                                    go_roundg k2
                                    case measure => have := HJ5.out; have := HK2.out; omega
                                    case rel => exact ⟨(((rdOf ByteArray.empty l0 x17_2).toList == ((rdOf ByteArray.empty l0 (ji15)).extract 0 ((ji19) : Int).toNat).toList)), (((rdOf ByteArray.empty l0 x17_2).toList == ((rdOf ByteArray.empty l0 (ji15)) ++ a3).toList)), (wrap64 (x17_2 + 1)), (by first | rfl | (simp; done) | (simp only [← hji15, ← hji19] <;> (first | rfl | simp)) | (simp [*]; done)), (by first | rfl | (simp; done) | (simp only [← hji15] <;> (first | rfl | simp)) | (simp [*]; done)), (by first | rfl | (simp; done) | (simp [*]; done)), H', ⟨by have := HJ5.out; have := HK2.out; omega⟩, ⟨by (with_reducible repeat (first | apply Kd.S_alloc | apply Kd.S_drewN | apply Kd.S_drew)); exact HO_10.out⟩, ⟨by repeat (first | (with_reducible first | exact HB.out | apply below_alloc | apply pw_below_drewN | apply below_drew1) | exact HB.out)⟩⟩
                                · rw [if_neg c28] at H
                                  exact absurd H (by simp)
                            · rw [if_neg c24] at H
                              have c24b0 : decide (x17_2 < (l0.length : Int)) = false := decide_eq_false c24
                              clear c24
                              by_cases c30 : t101 = true
                              · subst c30
                                have H1 : ((daw_Has.f t103 ((rdOf ByteArray.empty l0 (ji15)).extract 0 ((ji19) : Int).toNat)).bind fun t111 => (if (t111 == x15_2) = true then ((daw_Has.f t103 ((rdOf ByteArray.empty l0 (ji15)) ++ a3)).bind fun t112 => (some (t112 == x16_2))) else (some false))) = some r := by rw [if_pos rfl] at H; exact H
                                clear H
                                have H := H1
                                clear H1
                                replace H := Option.bind_eq_some_iff.mp H
                                obtain ⟨t111, A310, H⟩ := H
                                replace H : (if (t111 == x15_2) = true then ((daw_Has.f t103 ((rdOf ByteArray.empty l0 (ji15)) ++ a3)).bind fun t112 => (some (t112 == x16_2))) else (some false)) = some r := H
                                have A31 := Aside0.mk A310
                                clear A310
                                by_cases c32 : (t111 == x15_2) = true
                                · rw [if_pos c32] at H
                                  have c32b0 : (t111 == x15_2) = true := c32
                                  (try (have c32b1 : decide (t111 = x15_2) = true := by simpa using c32))
                                  (try (have c32b2 : (t111 == x15_2) = true := by simpa using c32))
                                  clear c32
                                  replace H := Option.bind_eq_some_iff.mp H
                                  obtain ⟨t112, A330, H⟩ := H
                                  replace H : (some (t112 == x16_2)) = some r := H
                                  have A33 := Aside0.mk A330
                                  clear A330
                                  obtain rfl := Option.some.inj H
                                  obtain ⟨Ao34, co34, eo34⟩ := Kd.S_slice HO_10.out
                                  subst eo34
                                  go_wp2_with (first | (go_at_call 17; (with_reducible refine (daw_Has.calls _ _ t103 ((rdOf ByteArray.empty l0 (ji15)).extract 0 ((ji19) : Int).toNat) t111 _ ?side1 ?side2 A31.out).mono ?_); (case side1 => repeat (first | exact (Kd.S_reads' HO_10.out).2.2 | (with_reducible refine Kd.C_alloc ?_ _) | (with_reducible refine Kd.C_drewN ?_ _) | (with_reducible refine Kd.C_drew ?_))); (case side2 => exact (Kd.S_reads' HO_10.out).2.1); rintro e w35 ⟨rfl, hb⟩; have n0_ := Aside0.mk (Kd.S_below (by (with_reducible repeat (first | apply Kd.S_alloc | apply Kd.S_drewN | apply Kd.S_drew)); exact HO_10.out) hb); have n1_ := Aside0.mk (below_step (by repeat (first | (with_reducible first | exact HB.out | apply below_alloc | apply pw_below_drewN | apply below_drew1) | exact HB.out)) hb); clear HO_10; clear HB; have HO_10 := n0_; have HB := n1_; clear n0_ n1_; (try clear hb); (try clear hb2); (try clear hk); (try clear hi)) | (go_at_call 17; (with_reducible refine (daw_Has.calls _ _ t103 ((rdOf ByteArray.empty l0 (ji15)) ++ a3) t112 _ ?side1 ?side2 A33.out).mono ?_); (case side1 => repeat (first | exact (Kd.S_reads' HO_10.out).2.2 | (with_reducible refine Kd.C_alloc ?_ _) | (with_reducible refine Kd.C_drewN ?_ _) | (with_reducible refine Kd.C_drew ?_))); (case side2 => exact (Kd.S_reads' HO_10.out).2.1); rintro e w36 ⟨rfl, hb⟩; have n0_ := Aside0.mk (Kd.S_below (by (with_reducible repeat (first | apply Kd.S_alloc | apply Kd.S_drewN | apply Kd.S_drew)); exact HO_10.out) hb); have n1_ := Aside0.mk (below_step (by repeat (first | (with_reducible first | exact HB.out | apply below_alloc | apply pw_below_drewN | apply below_drew1) | exact HB.out)) hb); clear HO_10; clear HB; have HO_10 := n0_; have HB := n1_; clear n0_ n1_; (try clear hb); (try clear hb2); (try clear hk); (try clear hi)))
                                  go_ret
                                  exact ⟨by first | rfl | (simp [errW_none, errW_some] <;> rfl) | (simp only [← hji15, ← hji19]; first | rfl | (simp [errW_none, errW_some] <;> rfl)) | (simp [*, errW_none, errW_some] <;> rfl), by repeat (first | (with_reducible first | exact HB.out | apply below_alloc | apply pw_below_drewN | apply below_drew1) | exact HB.out)⟩
                                · rw [if_neg c32] at H
                                  have c32b0 : (t111 == x15_2) = false := by simpa using c32
                                  (try (have c32b1 : decide (t111 = x15_2) = false := by simpa using c32))
                                  (try (have c32b2 : (t111 == x15_2) = false := by simpa using c32))
                                  (try (have c32b3 : ¬ (t111 = x15_2) := by simpa using c32))
                                  clear c32
                                  obtain rfl := Option.some.inj H
                                  obtain ⟨Ao37, co37, eo37⟩ := Kd.S_slice HO_10.out
                                  subst eo37
                                  go_wp2_with (first | (go_at_call 17; (with_reducible refine (daw_Has.calls _ _ t103 ((rdOf ByteArray.empty l0 (ji15)).extract 0 ((ji19) : Int).toNat) t111 _ ?side1 ?side2 A31.out).mono ?_); (case side1 => repeat (first | exact (Kd.S_reads' HO_10.out).2.2 | (with_reducible refine Kd.C_alloc ?_ _) | (with_reducible refine Kd.C_drewN ?_ _) | (with_reducible refine Kd.C_drew ?_))); (case side2 => exact (Kd.S_reads' HO_10.out).2.1); rintro e w38 ⟨rfl, hb⟩; have n0_ := Aside0.mk (Kd.S_below (by (with_reducible repeat (first | apply Kd.S_alloc | apply Kd.S_drewN | apply Kd.S_drew)); exact HO_10.out) hb); have n1_ := Aside0.mk (below_step (by repeat (first | (with_reducible first | exact HB.out | apply below_alloc | apply pw_below_drewN | apply below_drew1) | exact HB.out)) hb); clear HO_10; clear HB; have HO_10 := n0_; have HB := n1_; clear n0_ n1_; (try clear hb); (try clear hb2); (try clear hk); (try clear hi)))
                                  go_ret
                                  exact ⟨by first | rfl | (simp [errW_none, errW_some] <;> rfl) | (simp only [← hji15, ← hji19]; first | rfl | (simp [errW_none, errW_some] <;> rfl)) | (simp [*, errW_none, errW_some] <;> rfl), by repeat (first | (with_reducible first | exact HB.out | apply below_alloc | apply pw_below_drewN | apply below_drew1) | exact HB.out)⟩
                              · replace c30 := Bool.eq_false_iff.mpr c30
                                subst c30
                                have H1 : (some false) = some r := by rw [if_neg (show ¬ (false = true) by decide)] at H; exact H
                                clear H
                                have H := H1
                                clear H1
                                obtain rfl := Option.some.inj H
                                go_wp2
                                go_ret
                                exact ⟨by first | rfl | (simp [errW_none, errW_some] <;> rfl) | (simp only [← hji15, ← hji19]; first | rfl | (simp [errW_none, errW_some] <;> rfl)) | (simp [*, errW_none, errW_some] <;> rfl), by repeat (first | (with_reducible first | exact HB.out | apply below_alloc | apply pw_below_drewN | apply below_drew1) | exact HB.out)⟩
                      · rw [if_neg c22] at H
                        exact absurd H (by simp)
                    · rw [if_neg c21] at H
                      exact absurd H (by simp)
                  · rw [if_neg c20] at H
                    exact absurd H (by simp)
              · rw [if_neg c17] at H
                exact absurd H (by simp)
            · rw [if_neg c16] at H
              exact absurd H (by simp)
        · rw [if_neg c13] at H
          have c13b0 : (t104 == 0) = false := beq_eq_false_iff_ne.mpr c13
          have c13b1 : (t104 != 0) = true := bne_iff_ne.mpr c13
          obtain rfl := Option.some.inj H
          go_wp2_with (first | ((with_reducible refine gate_callee (f := 15) rfl ?_); refine goesL_ (some 35) rfl rfl Try.func15 (by kernel_rfl) rfl #[.slice A0 l0.length c0] rfl (by (try simp only [List.map_toArray, List.map_cons, List.map_nil]); first | done | rfl | (simp only [List.length_drop, List.length_take]; rfl)) ?_; (with_reducible refine (daw_Build.calls _ _ l0 t103 t104 _ ?side1 ?side2 A12.out).mono ?_); (case side1 => repeat (first | exact (Kd.C_below HR0.out HB.out) | (with_reducible refine Kd.C_alloc ?_ _) | (with_reducible refine Kd.C_drewN ?_ _) | (with_reducible refine Kd.C_drew ?_))); (case side2 => exact HC0.out); rintro e w39 ⟨v105, rfl, ho0, hb⟩; refine ⟨_, rfl, ?_⟩; have n0_ := Aside0.mk (Kd.S_lower ho0 (below_size (by repeat (first | (with_reducible first | exact HB.out | apply below_alloc | apply pw_below_drewN | apply below_drew1) | exact HB.out)))); have n1_ := Aside0.mk (below_step (by repeat (first | (with_reducible first | exact HB.out | apply below_alloc | apply pw_below_drewN | apply below_drew1) | exact HB.out)) hb); clear HB; have HO106 := n0_; have HB := n1_; clear n0_ n1_; (try clear hb); (try clear hb2); (try clear hk); (try clear hi); (try clear ho0)))
          go_ret
          exact ⟨by first | rfl | (simp [errW_none, errW_some] <;> rfl) | (simp [*, errW_none, errW_some] <;> rfl), by repeat (first | (with_reducible first | exact HB.out | apply below_alloc | apply pw_below_drewN | apply below_drew1) | exact HB.out)⟩

end Go.Proofs.Ytebdcblchjhmpaa.PDawBegins
