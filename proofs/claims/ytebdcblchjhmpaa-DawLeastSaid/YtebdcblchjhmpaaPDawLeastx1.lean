-- Written by xprint.py of this repo, over the kit's printer and contracts proved by hand.
import Derived.Test.YtebdcblchjhmpaaPDawLeastx0
namespace Go.Proofs.Ytebdcblchjhmpaa.PDawLeast
open Go.RowKit Go.Proofs.YtebdcblchjhmpaaW.PrintWords Go.Proofs.YtebdcblchjhmpaaW.PrintLast Go.Proofs.YtebdcblchjhmpaaW.PrintMore Go.Proofs.Ytebdcblchjhmpaa.K Go.Proofs.Ytebdcblchjhmpaa.PDk Go.Proofs.Ytebdcblchjhmpaa.PSh14
attribute [local go_sem] max2_int min2_int max_two min_two max_three min_three max_four min_four   -- for this text's walks alone
set_option linter.unusedVariables false
set_option linter.unusedSimpArgs false

/-! ### manteletlaw14_DawLeast: function 3 -/
mutual
def manteletlaw14_DawLeast.l0 : Nat → List ByteArray → Bool → List (S31) → Int → Int → Option (Bool)
  | 0, _, _, _, _, _ => none
  | k + 1, x0, x3, x4, x6, x7 => if x7 < (x0.length : Int) then (if 0 ≤ x7 then (manteletlaw14_DawLeast.l0 k x0 x3 x4 (wrap64 (x6 + ((rdOf ByteArray.empty x0 x7).size : Int))) (wrap64 (x7 + 1))) else (none)) else (manteletlaw14_DawLeast.l1 k x0 x3 x4 x6 0)
def manteletlaw14_DawLeast.l1 : Nat → List ByteArray → Bool → List (S31) → Int → Int → Option (Bool)
  | 0, _, _, _, _, _ => none
  | k + 1, x0, x3, x4, x6, x8 => if x8 < (x4.length : Int) then (if 0 ≤ x8 then (if ((rd_T31 x4 x8).f0 = true) then (manteletlaw14_DawLeast.j2 k x0 x3 x4 x6 x8 false) else (if (((rd_T31 x4 x8).f1).length : Int) = 0 then (manteletlaw14_DawLeast.j2 k x0 x3 x4 x6 x8 (decide ((x0.length : Int) > 0))) else (manteletlaw14_DawLeast.j2 k x0 x3 x4 x6 x8 false))) else (none)) else (if x3 = true then (if (x4.length : Int) ≥ 1 then (some (decide ((x4.length : Int) ≤ x6))) else (some false)) else (some false))
def manteletlaw14_DawLeast.j2 : Nat → List ByteArray → Bool → List (S31) → Int → Int → Bool → Option (Bool)
  | 0, _, _, _, _, _, _ => none
  | k + 1, x0, x3, x4, x6, x8, x62 => if x62 = true then (some false) else (manteletlaw14_DawLeast.l2 k x0 x3 x4 x6 x8 0)
def manteletlaw14_DawLeast.l2 : Nat → List ByteArray → Bool → List (S31) → Int → Int → Int → Option (Bool)
  | 0, _, _, _, _, _, _ => none
  | k + 1, x0, x3, x4, x6, x8, x9 => if 0 ≤ x8 then (if x8 < (x4.length : Int) then (if x9 < (((rd_T31 x4 x8).f1).length : Int) then (if 0 ≤ x9 then (if ((rd_T33 ((rd_T31 x4 x8).f1) x9).f1) ≥ x8 then (some false) else (if ((rd_T33 ((rd_T31 x4 x8).f1) x9).f1) < 0 then (some false) else (if x9 > 0 then (if 0 ≤ (wrap64 (x9 - 1)) then (if (wrap64 (x9 - 1)) < (((rd_T31 x4 x8).f1).length : Int) then (if ((rd_T33 ((rd_T31 x4 x8).f1) x9).f0) ≤ ((rd_T33 ((rd_T31 x4 x8).f1) (wrap64 (x9 - 1))).f0) then (some false) else (manteletlaw14_DawLeast.l2 k x0 x3 x4 x6 x8 (wrap64 (x9 + 1)))) else (none)) else (none)) else (manteletlaw14_DawLeast.l2 k x0 x3 x4 x6 x8 (wrap64 (x9 + 1)))))) else (none)) else (manteletlaw14_DawLeast.l3 k x0 x3 x4 x6 x8 0)) else (none)) else (none)
def manteletlaw14_DawLeast.l3 : Nat → List ByteArray → Bool → List (S31) → Int → Int → Int → Option (Bool)
  | 0, _, _, _, _, _, _ => none
  | k + 1, x0, x3, x4, x6, x8, x10 => if x10 < x8 then (if 0 ≤ x8 then (if x8 ≤ (wrap64 (x8 + 1)) then (if (wrap64 (x8 + 1)) ≤ (x4.length : Int) then (if 0 ≤ x10 then (if x10 ≤ (wrap64 (x10 + 1)) then (if (wrap64 (x10 + 1)) ≤ (x4.length : Int) then ((manteletref14_Same.f k ((x4.take ((wrap64 (x8 + 1)) : Int).toNat).drop (x8 : Int).toNat) ((x4.take ((wrap64 (x10 + 1)) : Int).toNat).drop (x10 : Int).toNat)).bind fun t127 => (if t127 = true then (some false) else (manteletlaw14_DawLeast.l3 k x0 x3 x4 x6 x8 (wrap64 (x10 + 1))))) else (none)) else (none)) else (none)) else (none)) else (none)) else (none)) else (manteletlaw14_DawLeast.l1 k x0 x3 x4 x6 (wrap64 (x8 + 1)))
end
def manteletlaw14_DawLeast.f (k : Nat) (l0 : List ByteArray) : Option (Bool) := (manteletlaw14_shown.f k).bind fun t101 => ((manteletlaw14_few.f k l0).bind fun t102 => (if t102 = true then ((daw_Build.f l0).bind fun bt103 => (if bt103.2 = 0 then (manteletlaw14_DawLeast.l0 k l0 t101 bt103.1 1 0) else (some t101))) else (some t101)))
theorem manteletlaw14_DawLeast.mono_l : ∀ k, (∀ y0 y1 y2 y3 y4, LeO (manteletlaw14_DawLeast.l0 k y0 y1 y2 y3 y4) (manteletlaw14_DawLeast.l0 (k + 1) y0 y1 y2 y3 y4)) ∧ (∀ y0 y1 y2 y3 y4, LeO (manteletlaw14_DawLeast.l1 k y0 y1 y2 y3 y4) (manteletlaw14_DawLeast.l1 (k + 1) y0 y1 y2 y3 y4)) ∧ (∀ y0 y1 y2 y3 y4 y5, LeO (manteletlaw14_DawLeast.j2 k y0 y1 y2 y3 y4 y5) (manteletlaw14_DawLeast.j2 (k + 1) y0 y1 y2 y3 y4 y5)) ∧ (∀ y0 y1 y2 y3 y4 y5, LeO (manteletlaw14_DawLeast.l2 k y0 y1 y2 y3 y4 y5) (manteletlaw14_DawLeast.l2 (k + 1) y0 y1 y2 y3 y4 y5)) ∧ (∀ y0 y1 y2 y3 y4 y5, LeO (manteletlaw14_DawLeast.l3 k y0 y1 y2 y3 y4 y5) (manteletlaw14_DawLeast.l3 (k + 1) y0 y1 y2 y3 y4 y5))
  | 0 => ⟨fun _ _ _ _ _ r h => by simp [manteletlaw14_DawLeast.l0] at h, fun _ _ _ _ _ r h => by simp [manteletlaw14_DawLeast.l1] at h, fun _ _ _ _ _ _ r h => by simp [manteletlaw14_DawLeast.j2] at h, fun _ _ _ _ _ _ r h => by simp [manteletlaw14_DawLeast.l2] at h, fun _ _ _ _ _ _ r h => by simp [manteletlaw14_DawLeast.l3] at h⟩
  | k + 1 => by
    obtain ⟨ih0, ih1, ih2, ih3, ih4⟩ := manteletlaw14_DawLeast.mono_l k
    refine ⟨?_, ?_, ?_, ?_, ?_⟩
    · intro y0 y1 y2 y3 y4
      unfold manteletlaw14_DawLeast.l0
      repeat' first
      | (with_reducible exact ih0 _ _ _ _ _)
      | (with_reducible exact ih1 _ _ _ _ _)
      | (with_reducible exact ih2 _ _ _ _ _ _)
      | (with_reducible exact ih3 _ _ _ _ _ _)
      | (with_reducible exact ih4 _ _ _ _ _ _)
      | (with_reducible exact manteletlaw14_few.mono _ _)
      | (with_reducible exact manteletlaw14_shown.mono _)
      | (with_reducible exact manteletref14_Same.mono _ _ _)
      | (with_reducible exact LeO.refl _)
      | (with_reducible exact LeO.none _)
      | (with_reducible refine LeO.ite ?_ ?_)
      | (with_reducible refine LeO.bind ?_ (fun _ => ?_))
      | exact ih0 _ _ _ _ _
      | exact ih1 _ _ _ _ _
      | exact ih2 _ _ _ _ _ _
      | exact ih3 _ _ _ _ _ _
      | exact ih4 _ _ _ _ _ _
      | exact manteletlaw14_few.mono _ _
      | exact manteletlaw14_shown.mono _
      | exact manteletref14_Same.mono _ _ _
      | exact LeO.none _
      | refine LeO.ite ?_ ?_
      | refine LeO.bind ?_ (fun _ => ?_)
    · intro y0 y1 y2 y3 y4
      unfold manteletlaw14_DawLeast.l1
      repeat' first
      | (with_reducible exact ih0 _ _ _ _ _)
      | (with_reducible exact ih1 _ _ _ _ _)
      | (with_reducible exact ih2 _ _ _ _ _ _)
      | (with_reducible exact ih3 _ _ _ _ _ _)
      | (with_reducible exact ih4 _ _ _ _ _ _)
      | (with_reducible exact manteletlaw14_few.mono _ _)
      | (with_reducible exact manteletlaw14_shown.mono _)
      | (with_reducible exact manteletref14_Same.mono _ _ _)
      | (with_reducible exact LeO.refl _)
      | (with_reducible exact LeO.none _)
      | (with_reducible refine LeO.ite ?_ ?_)
      | (with_reducible refine LeO.bind ?_ (fun _ => ?_))
      | exact ih0 _ _ _ _ _
      | exact ih1 _ _ _ _ _
      | exact ih2 _ _ _ _ _ _
      | exact ih3 _ _ _ _ _ _
      | exact ih4 _ _ _ _ _ _
      | exact manteletlaw14_few.mono _ _
      | exact manteletlaw14_shown.mono _
      | exact manteletref14_Same.mono _ _ _
      | exact LeO.none _
      | refine LeO.ite ?_ ?_
      | refine LeO.bind ?_ (fun _ => ?_)
    · intro y0 y1 y2 y3 y4 y5
      unfold manteletlaw14_DawLeast.j2
      repeat' first
      | (with_reducible exact ih0 _ _ _ _ _)
      | (with_reducible exact ih1 _ _ _ _ _)
      | (with_reducible exact ih2 _ _ _ _ _ _)
      | (with_reducible exact ih3 _ _ _ _ _ _)
      | (with_reducible exact ih4 _ _ _ _ _ _)
      | (with_reducible exact manteletlaw14_few.mono _ _)
      | (with_reducible exact manteletlaw14_shown.mono _)
      | (with_reducible exact manteletref14_Same.mono _ _ _)
      | (with_reducible exact LeO.refl _)
      | (with_reducible exact LeO.none _)
      | (with_reducible refine LeO.ite ?_ ?_)
      | (with_reducible refine LeO.bind ?_ (fun _ => ?_))
      | exact ih0 _ _ _ _ _
      | exact ih1 _ _ _ _ _
      | exact ih2 _ _ _ _ _ _
      | exact ih3 _ _ _ _ _ _
      | exact ih4 _ _ _ _ _ _
      | exact manteletlaw14_few.mono _ _
      | exact manteletlaw14_shown.mono _
      | exact manteletref14_Same.mono _ _ _
      | exact LeO.none _
      | refine LeO.ite ?_ ?_
      | refine LeO.bind ?_ (fun _ => ?_)
    · intro y0 y1 y2 y3 y4 y5
      unfold manteletlaw14_DawLeast.l2
      repeat' first
      | (with_reducible exact ih0 _ _ _ _ _)
      | (with_reducible exact ih1 _ _ _ _ _)
      | (with_reducible exact ih2 _ _ _ _ _ _)
      | (with_reducible exact ih3 _ _ _ _ _ _)
      | (with_reducible exact ih4 _ _ _ _ _ _)
      | (with_reducible exact manteletlaw14_few.mono _ _)
      | (with_reducible exact manteletlaw14_shown.mono _)
      | (with_reducible exact manteletref14_Same.mono _ _ _)
      | (with_reducible exact LeO.refl _)
      | (with_reducible exact LeO.none _)
      | (with_reducible refine LeO.ite ?_ ?_)
      | (with_reducible refine LeO.bind ?_ (fun _ => ?_))
      | exact ih0 _ _ _ _ _
      | exact ih1 _ _ _ _ _
      | exact ih2 _ _ _ _ _ _
      | exact ih3 _ _ _ _ _ _
      | exact ih4 _ _ _ _ _ _
      | exact manteletlaw14_few.mono _ _
      | exact manteletlaw14_shown.mono _
      | exact manteletref14_Same.mono _ _ _
      | exact LeO.none _
      | refine LeO.ite ?_ ?_
      | refine LeO.bind ?_ (fun _ => ?_)
    · intro y0 y1 y2 y3 y4 y5
      unfold manteletlaw14_DawLeast.l3
      repeat' first
      | (with_reducible exact ih0 _ _ _ _ _)
      | (with_reducible exact ih1 _ _ _ _ _)
      | (with_reducible exact ih2 _ _ _ _ _ _)
      | (with_reducible exact ih3 _ _ _ _ _ _)
      | (with_reducible exact ih4 _ _ _ _ _ _)
      | (with_reducible exact manteletlaw14_few.mono _ _)
      | (with_reducible exact manteletlaw14_shown.mono _)
      | (with_reducible exact manteletref14_Same.mono _ _ _)
      | (with_reducible exact LeO.refl _)
      | (with_reducible exact LeO.none _)
      | (with_reducible refine LeO.ite ?_ ?_)
      | (with_reducible refine LeO.bind ?_ (fun _ => ?_))
      | exact ih0 _ _ _ _ _
      | exact ih1 _ _ _ _ _
      | exact ih2 _ _ _ _ _ _
      | exact ih3 _ _ _ _ _ _
      | exact ih4 _ _ _ _ _ _
      | exact manteletlaw14_few.mono _ _
      | exact manteletlaw14_shown.mono _
      | exact manteletref14_Same.mono _ _ _
      | exact LeO.none _
      | refine LeO.ite ?_ ?_
      | refine LeO.bind ?_ (fun _ => ?_)
theorem manteletlaw14_DawLeast.mono : ∀ a0 k, LeO (manteletlaw14_DawLeast.f k a0) (manteletlaw14_DawLeast.f (k + 1) a0) := by
  intro a0 k
  obtain ⟨ih0, ih1, ih2, ih3, ih4⟩ := manteletlaw14_DawLeast.mono_l k
  unfold manteletlaw14_DawLeast.f
  repeat' first
      | (with_reducible exact ih0 _ _ _ _ _)
      | (with_reducible exact ih1 _ _ _ _ _)
      | (with_reducible exact ih2 _ _ _ _ _ _)
      | (with_reducible exact ih3 _ _ _ _ _ _)
      | (with_reducible exact ih4 _ _ _ _ _ _)
      | (with_reducible exact manteletlaw14_few.mono _ _)
      | (with_reducible exact manteletlaw14_shown.mono _)
      | (with_reducible exact manteletref14_Same.mono _ _ _)
      | (with_reducible exact LeO.refl _)
      | (with_reducible exact LeO.none _)
      | (with_reducible refine LeO.ite ?_ ?_)
      | (with_reducible refine LeO.bind ?_ (fun _ => ?_))
      | exact ih0 _ _ _ _ _
      | exact ih1 _ _ _ _ _
      | exact ih2 _ _ _ _ _ _
      | exact ih3 _ _ _ _ _ _
      | exact ih4 _ _ _ _ _ _
      | exact manteletlaw14_few.mono _ _
      | exact manteletlaw14_shown.mono _
      | exact manteletref14_Same.mono _ _ _
      | exact LeO.none _
      | refine LeO.ite ?_ ?_
      | refine LeO.bind ?_ (fun _ => ?_)
set_option maxHeartbeats 8000000 in
set_option maxRecDepth 100000 in
theorem manteletlaw14_DawLeast.calls (k : Nat) (A0 : Option Addr) (c0 : Nat) (l0 : List ByteArray) (r : Bool) (w : World) (hr0 : Kd.C Kd.string w A0 l0.length l0) (hc0 : l0.length ≤ c0) (h : manteletlaw14_DawLeast.f k l0 = some r) :
    Calls Try.prog 3 #[.slice A0 l0.length c0] w fun e w' => e = .returned (.bool r) ∧ Below w.heap.size w w' := by
  have HR0 := Aside0.mk hr0
  have HC0 := Aside0.mk hc0
  clear hr0 hc0
  have HB := Aside0.mk (Below.refl w.heap.size w)
  have H : ((manteletlaw14_shown.f k).bind fun t101 => ((manteletlaw14_few.f k l0).bind fun t102 => (if t102 = true then ((daw_Build.f l0).bind fun bt103 => (if bt103.2 = 0 then (manteletlaw14_DawLeast.l0 k l0 t101 bt103.1 1 0) else (some t101))) else (some t101)))) = some r := h
  clear h
  replace H := Option.bind_eq_some_iff.mp H
  obtain ⟨t101, A20, H⟩ := H
  replace H : ((manteletlaw14_few.f k l0).bind fun t102 => (if t102 = true then ((daw_Build.f l0).bind fun bt103 => (if bt103.2 = 0 then (manteletlaw14_DawLeast.l0 k l0 t101 bt103.1 1 0) else (some t101))) else (some t101))) = some r := H
  have A2 := Aside0.mk A20
  clear A20
  replace H := Option.bind_eq_some_iff.mp H
  obtain ⟨t102, A30, H⟩ := H
  replace H : (if t102 = true then ((daw_Build.f l0).bind fun bt103 => (if bt103.2 = 0 then (manteletlaw14_DawLeast.l0 k l0 t101 bt103.1 1 0) else (some t101))) else (some t101)) = some r := H
  have A3 := Aside0.mk A30
  clear A30
  by_cases c4 : t102 = true
  · subst c4
    have H1 : ((daw_Build.f l0).bind fun bt103 => (if bt103.2 = 0 then (manteletlaw14_DawLeast.l0 k l0 t101 bt103.1 1 0) else (some t101))) = some r := by rw [if_pos rfl] at H; exact H
    clear H
    have H := H1
    clear H1
    replace H := Option.bind_eq_some_iff.mp H
    obtain ⟨⟨t103, t104⟩, A50, H⟩ := H
    replace H : (if t104 = 0 then (manteletlaw14_DawLeast.l0 k l0 t101 t103 1 0) else (some t101)) = some r := H
    have A5 := Aside0.mk A50
    clear A50
    by_cases c6 : t104 = 0
    · rw [if_pos c6] at H
      have c6b0 : (t104 == 0) = true := beq_iff_eq.mpr c6
      have c6b1 : (t104 != 0) = false := bne_eq_false_iff_eq.mpr c6
      clear c6
      have H' := Aside0.mk H
      clear H
      go_enter Try.func3, Try.ntmps3
      go_wp2_with (first | (go_at_call 13; (with_reducible refine (manteletlaw14_shown.calls k  t101 _ A2.out).mono ?_); rintro e w7 ⟨rfl, hb⟩; have n0_ := Aside0.mk (below_step (by repeat (first | (with_reducible first | exact HB.out | apply below_alloc | apply pw_below_drewN | apply below_drew1) | exact HB.out)) hb); clear HB; have HB := n0_; clear n0_; (try clear hb); (try clear hb2); (try clear hk); (try clear hi)) | (go_at_call 14; (with_reducible refine (manteletlaw14_few.calls k _ _ l0 true _ ?side1 ?side2 A3.out).mono ?_); (case side1 => repeat (first | exact (Kd.C_below HR0.out HB.out) | (with_reducible refine Kd.C_alloc ?_ _) | (with_reducible refine Kd.C_drewN ?_ _) | (with_reducible refine Kd.C_drew ?_))); (case side2 => exact HC0.out); rintro e w' ⟨rfl, ⟨nd, rfl⟩⟩; (try first | exact ⟨rfl, _, World.drewN_drewN _ _ _⟩ | exact ⟨rfl, _, Eq.trans (World.drewN_drewN _ _ _) (congrArg (World.drewN _) (Nat.add_assoc _ _ _))⟩)) | (go_at_call 15; (with_reducible refine (daw_Build.calls _ _ l0 t103 t104 _ ?side1 ?side2 A5.out).mono ?_); (case side1 => repeat (first | exact (Kd.C_below HR0.out (by repeat (first | (with_reducible first | exact HB.out | apply below_alloc | apply pw_below_drewN | apply below_drew1) | exact HB.out))) | (with_reducible refine Kd.C_alloc ?_ _) | (with_reducible refine Kd.C_drewN ?_ _) | (with_reducible refine Kd.C_drew ?_))); (case side2 => exact HC0.out); rintro e w8 ⟨v105, rfl, ho0, hb⟩; have n0_ := Aside0.mk (Kd.S_lower ho0 (below_size (by repeat (first | (with_reducible first | exact HB.out | apply below_alloc | apply pw_below_drewN | apply below_drew1) | exact HB.out)))); have n1_ := Aside0.mk (below_step (by repeat (first | (with_reducible first | exact HB.out | apply below_alloc | apply pw_below_drewN | apply below_drew1) | exact HB.out)) hb); clear HB; have HO106 := n0_; have HB := n1_; clear n0_ n1_; (try clear hb); (try clear hb2); (try clear hk); (try clear hi); (try clear ho0)))
      repeat (go_quiet (first | (go_at_call 13; (with_reducible refine (manteletlaw14_shown.calls k  t101 _ A2.out).mono ?_); rintro e w7 ⟨rfl, hb⟩; have n0_ := Aside0.mk (below_step (by repeat (first | (with_reducible first | exact HB.out | apply below_alloc | apply pw_below_drewN | apply below_drew1) | exact HB.out)) hb); clear HB; have HB := n0_; clear n0_; (try clear hb); (try clear hb2); (try clear hk); (try clear hi)) | (go_at_call 14; (with_reducible refine (manteletlaw14_few.calls k _ _ l0 true _ ?side1 ?side2 A3.out).mono ?_); (case side1 => repeat (first | exact (Kd.C_below HR0.out HB.out) | (with_reducible refine Kd.C_alloc ?_ _) | (with_reducible refine Kd.C_drewN ?_ _) | (with_reducible refine Kd.C_drew ?_))); (case side2 => exact HC0.out); rintro e w' ⟨rfl, ⟨nd, rfl⟩⟩; (try first | exact ⟨rfl, _, World.drewN_drewN _ _ _⟩ | exact ⟨rfl, _, Eq.trans (World.drewN_drewN _ _ _) (congrArg (World.drewN _) (Nat.add_assoc _ _ _))⟩)) | (go_at_call 15; (with_reducible refine (daw_Build.calls _ _ l0 t103 t104 _ ?side1 ?side2 A5.out).mono ?_); (case side1 => repeat (first | exact (Kd.C_below HR0.out (by repeat (first | (with_reducible first | exact HB.out | apply below_alloc | apply pw_below_drewN | apply below_drew1) | exact HB.out))) | (with_reducible refine Kd.C_alloc ?_ _) | (with_reducible refine Kd.C_drewN ?_ _) | (with_reducible refine Kd.C_drew ?_))); (case side2 => exact HC0.out); rintro e w8 ⟨v105, rfl, ho0, hb⟩; have n0_ := Aside0.mk (Kd.S_lower ho0 (below_size (by repeat (first | (with_reducible first | exact HB.out | apply below_alloc | apply pw_below_drewN | apply below_drew1) | exact HB.out)))); have n1_ := Aside0.mk (below_step (by repeat (first | (with_reducible first | exact HB.out | apply below_alloc | apply pw_below_drewN | apply below_drew1) | exact HB.out)) hb); clear HB; have HO106 := n0_; have HB := n1_; clear n0_ n1_; (try clear hb); (try clear hb2); (try clear hk); (try clear hi); (try clear ho0))); try go_wp2_with (first | (go_at_call 13; (with_reducible refine (manteletlaw14_shown.calls k  t101 _ A2.out).mono ?_); rintro e w7 ⟨rfl, hb⟩; have n0_ := Aside0.mk (below_step (by repeat (first | (with_reducible first | exact HB.out | apply below_alloc | apply pw_below_drewN | apply below_drew1) | exact HB.out)) hb); clear HB; have HB := n0_; clear n0_; (try clear hb); (try clear hb2); (try clear hk); (try clear hi)) | (go_at_call 14; (with_reducible refine (manteletlaw14_few.calls k _ _ l0 true _ ?side1 ?side2 A3.out).mono ?_); (case side1 => repeat (first | exact (Kd.C_below HR0.out HB.out) | (with_reducible refine Kd.C_alloc ?_ _) | (with_reducible refine Kd.C_drewN ?_ _) | (with_reducible refine Kd.C_drew ?_))); (case side2 => exact HC0.out); rintro e w' ⟨rfl, ⟨nd, rfl⟩⟩; (try first | exact ⟨rfl, _, World.drewN_drewN _ _ _⟩ | exact ⟨rfl, _, Eq.trans (World.drewN_drewN _ _ _) (congrArg (World.drewN _) (Nat.add_assoc _ _ _))⟩)) | (go_at_call 15; (with_reducible refine (daw_Build.calls _ _ l0 t103 t104 _ ?side1 ?side2 A5.out).mono ?_); (case side1 => repeat (first | exact (Kd.C_below HR0.out (by repeat (first | (with_reducible first | exact HB.out | apply below_alloc | apply pw_below_drewN | apply below_drew1) | exact HB.out))) | (with_reducible refine Kd.C_alloc ?_ _) | (with_reducible refine Kd.C_drewN ?_ _) | (with_reducible refine Kd.C_drew ?_))); (case side2 => exact HC0.out); rintro e w8 ⟨v105, rfl, ho0, hb⟩; have n0_ := Aside0.mk (Kd.S_lower ho0 (below_size (by repeat (first | (with_reducible first | exact HB.out | apply below_alloc | apply pw_below_drewN | apply below_drew1) | exact HB.out)))); have n1_ := Aside0.mk (below_step (by repeat (first | (with_reducible first | exact HB.out | apply below_alloc | apply pw_below_drewN | apply below_drew1) | exact HB.out)) hb); clear HB; have HO106 := n0_; have HB := n1_; clear n0_ n1_; (try clear hb); (try clear hb2); (try clear hk); (try clear hi); (try clear ho0))))
      go_loopg [6, 7] k (fun kq v6 v7 w' => ∃ (x6_1 : Int) (x7_1 : Int), v6 = .int .i64 x6_1 ∧ v7 = .int .i64 x7_1 ∧ Aside0 (manteletlaw14_DawLeast.l0 kq l0 t101 t103 x6_1 x7_1 = some r) ∧ Aside0 (kq ≤ k) ∧ Aside0 (Kd.S k31 31 w' w.heap.size (fun _ => True) v105 t103) ∧ Aside0 (Below w.heap.size w w'))
      case atStart => exact ⟨(1), (0), (by first | rfl | (simp; done) | (simp [*]; done)), (by first | rfl | (simp; done) | (simp [*]; done)), H', ⟨Nat.le_refl _⟩, ⟨by (with_reducible repeat (first | apply Kd.S_alloc | apply Kd.S_drewN | apply Kd.S_drew)); exact HO106.out⟩, ⟨by repeat (first | (with_reducible first | exact HB.out | apply below_alloc | apply pw_below_drewN | apply below_drew1) | exact HB.out)⟩⟩
      case round =>
        clear H'
        try clear p2
        try clear c3
        try clear c4
        try clear c6
        try clear c6b0
        try clear c6b1
        obtain ⟨x6_1, x7_1, rfl, rfl, HA, HK1, HO_4, HB⟩ := hrel
        cases gk with
        | zero => exact absurd HA.out (by simp [manteletlaw14_DawLeast.l0])
        | succ k1 =>
          have H := HA.out
          clear HA
          simp only [manteletlaw14_DawLeast.l0] at H
          by_cases c9 : x7_1 < (l0.length : Int)
          · rw [if_pos c9] at H
            have c9b0 : decide (x7_1 < (l0.length : Int)) = true := decide_eq_true c9
            clear c9
            by_cases c10 : 0 ≤ x7_1
            · rw [if_pos c10] at H
              have c10b0 : decide (0 ≤ x7_1) = true := decide_eq_true c10
              clear c10
              have H' := Aside0.mk H
              clear H
              have p107 : 0 ≤ (x7_1 : Int) := of_decide_eq_true (by first | (with_reducible assumption) | assumption)
              have q107 : x7_1 < (l0.length : Int) := of_decide_eq_true (by first | (with_reducible assumption) | assumption)
              obtain ⟨ad107, e107, hx107_0⟩ := Kd.at_string HR0.out x7_1 p107 q107
              cases e107
              replace hx107_0 := (HB.out.cell (World.block_lt_of_cell? w _ hx107_0)).trans hx107_0
              replace p107 := eq_true p107
              replace q107 := eq_true q107
              go_wp2
              repeat (go_quiet (fail); try go_wp2)
              go_roundg k1
              case measure => have := HK1.out; omega
              case rel => exact ⟨(wrap64 (x6_1 + ((rdOf ByteArray.empty l0 x7_1).size : Int))), (wrap64 (x7_1 + 1)), (by first | rfl | (simp; done) | (simp [*]; done)), (by first | rfl | (simp; done) | (simp [*]; done)), H', ⟨by have := HK1.out; omega⟩, ⟨by (with_reducible repeat (first | apply Kd.S_alloc | apply Kd.S_drewN | apply Kd.S_drew)); exact HO_4.out⟩, ⟨by repeat (first | (with_reducible first | exact HB.out | apply below_alloc | apply pw_below_drewN | apply below_drew1) | exact HB.out)⟩⟩
            · rw [if_neg c10] at H
              exact absurd H (by simp)
          · rw [if_neg c9] at H
            have c9b0 : decide (x7_1 < (l0.length : Int)) = false := decide_eq_false c9
            clear c9
            have H' := Aside0.mk H
            clear H
            go_wp2
            repeat (go_quiet (fail); try go_wp2)
            go_loopg [8] k1 (fun kq v8 w' => ∃ (x8_2 : Int), v8 = .int .i64 x8_2 ∧ Aside0 (manteletlaw14_DawLeast.l1 kq l0 t101 t103 x6_1 x8_2 = some r) ∧ Aside0 (kq ≤ k1) ∧ Aside0 (Kd.S k31 31 w' w.heap.size (fun _ => True) v105 t103) ∧ Aside0 (Below w.heap.size w w'))
            case atStart => exact ⟨(0), (by first | rfl | (simp; done) | (simp [*]; done)), H', ⟨Nat.le_refl _⟩, ⟨by (with_reducible repeat (first | apply Kd.S_alloc | apply Kd.S_drewN | apply Kd.S_drew)); exact HO_4.out⟩, ⟨by repeat (first | (with_reducible first | exact HB.out | apply below_alloc | apply pw_below_drewN | apply below_drew1) | exact HB.out)⟩⟩
            case round =>
              clear H'
              try clear c1
              try clear p1
              try clear q1
              try clear hx1
              try clear p2
              try clear c3
              try clear c4
              try clear c6
              try clear c6b0
              try clear c6b1
              try clear p6
              try clear c9
              try clear c9b0
              try clear c10
              try clear c10b0
              try clear p10
              try clear q10
              try clear hx10
              try clear hx107_0
              try clear p107
              try clear p2
              try clear q107
              obtain ⟨x8_2, rfl, HA, HK2, HO_4, HB⟩ := hrel
              cases gk with
              | zero => exact absurd HA.out (by simp [manteletlaw14_DawLeast.l1])
              | succ k2 =>
                have H := HA.out
                clear HA
                simp only [manteletlaw14_DawLeast.l1] at H
                by_cases c11 : x8_2 < (t103.length : Int)
                · rw [if_pos c11] at H
                  have c11b0 : decide (x8_2 < (t103.length : Int)) = true := decide_eq_true c11
                  clear c11
                  have HC12 := Aside0.mk H
                  clear H
                  obtain ⟨Ao13, co13, eo13⟩ := Kd.S_slice HO_4.out
                  subst eo13
                  go_upto_region 15 with (fail)
                  repeat (go_quiet (fail); go_upto_region 15 with (fail))
                  go_cut [62] (fun v62 wc => ∃ (kq : Nat) (x62_11 : Bool), v62 = .bool x62_11 ∧ Aside0 (manteletlaw14_DawLeast.j2 kq l0 t101 t103 x6_1 x8_2 x62_11 = some r) ∧ Aside0 (kq ≤ k2) ∧ Aside0 (Kd.S k31 31 wc w.heap.size (fun _ => True) (.slice Ao13 t103.length co13) t103) ∧ Aside0 (Below w.heap.size w wc))
                  case first =>
                    have H := HC12.out
                    clear HC12
                    by_cases c14 : 0 ≤ x8_2
                    · rw [if_pos c14] at H
                      have c14b0 : decide (0 ≤ x8_2) = true := decide_eq_true c14
                      clear c14
                      (first | rw [c14b0] | (simp only [i64_w, i32_w]; rw [c14b0]) | skip)
                      obtain ⟨bq15, hbq15⟩ : ∃ b_ : Bool, b_ = ((rd_T31 t103 x8_2).f0) := ⟨_, rfl⟩
                      replace H : (if (bq15 = true) then (manteletlaw14_DawLeast.j2 k2 l0 t101 t103 x6_1 x8_2 false) else (if (((rd_T31 t103 x8_2).f1).length : Int) = 0 then (manteletlaw14_DawLeast.j2 k2 l0 t101 t103 x6_1 x8_2 (decide ((l0.length : Int) > 0))) else (manteletlaw14_DawLeast.j2 k2 l0 t101 t103 x6_1 x8_2 false))) = some r := by rw [← hbq15] at H; exact H
                      have Nbq15 := Aside0.mk hbq15
                      clear hbq15
                      by_cases c16 : (bq15 = true)
                      · subst c16
                        have H1 : (manteletlaw14_DawLeast.j2 k2 l0 t101 t103 x6_1 x8_2 false) = some r := by rw [if_pos rfl] at H; exact H
                        clear H
                        have H := H1
                        clear H1
                        have H' := Aside0.mk H
                        clear H
                        have p108 : 0 ≤ (x8_2 : Int) := of_decide_eq_true (by first | (with_reducible assumption) | assumption)
                        have q108 : x8_2 < (t103.length : Int) := of_decide_eq_true (by first | (with_reducible assumption) | assumption)
                        obtain ⟨ad108, A108_1, c108_1, e108, hx108_0, hx108_1, hl108_1, hi108_1⟩ := at_T31 (Kd.S_reads' HO_4.out).2.2 x8_2 p108 q108
                        (try rw [← Nbq15.out] at hx108_0)
                        cases e108
                        obtain ⟨ce108, hce108, hMe108, hcc108⟩ := Kd.S_get HO_4.out z31 x8_2 p108 (by first | exact q108 | exact of_decide_eq_true (by first | (with_reducible assumption) | assumption) | (have e_ := (Kd.S_reads' HO_4.out).1; omega))
                        obtain ⟨ve108_1, rfl, ge108_1⟩ := k31_openM hMe108
                        have hv108_1 := hcc108 1 _ rfl
                        rw [add_field _ _ 1 (by omega)] at hv108_1
                        replace hv108_1 := Option.some.inj (hv108_1.symm.trans hx108_1)
                        rw [hv108_1] at ge108_1
                        have HL108_1 := Aside0.mk (show Kd.R k33 33 _ _ _ _ ((rd_T31 t103 x8_2).f1) from ge108_1)
                        clear hv108_1 ge108_1
                        clear hcc108 hce108
                        have HR108_1 := Aside0.mk hi108_1
                        have HC108_1 := Aside0.mk hl108_1
                        clear hi108_1 hl108_1
                        replace p108 := eq_true p108
                        replace q108 := eq_true q108
                        go_wp2
                        repeat (go_quiet (fail); try go_wp2)
                        go_meet
                        case rel => exact ⟨_, (false), (by first | rfl | (simp; done) | (simp [*]; done)), H', ⟨by have := HK1.out; have := HK2.out; first | omega | exact Nat.le_refl _⟩, ⟨by (with_reducible repeat (first | apply Kd.S_alloc | apply Kd.S_drewN | apply Kd.S_drew)); exact HO_4.out⟩, ⟨by repeat (first | (with_reducible first | exact HB.out | apply below_alloc | apply pw_below_drewN | apply below_drew1) | exact HB.out)⟩⟩
                      · replace c16 := Bool.eq_false_iff.mpr c16
                        subst c16
                        have H1 : (if (((rd_T31 t103 x8_2).f1).length : Int) = 0 then (manteletlaw14_DawLeast.j2 k2 l0 t101 t103 x6_1 x8_2 (decide ((l0.length : Int) > 0))) else (manteletlaw14_DawLeast.j2 k2 l0 t101 t103 x6_1 x8_2 false)) = some r := by rw [if_neg (show ¬ (false = true) by decide)] at H; exact H
                        clear H
                        have H := H1
                        clear H1
                        by_cases c17 : (((rd_T31 t103 x8_2).f1).length : Int) = 0
                        · rw [if_pos c17] at H
                          have c17b0 : ((((rd_T31 t103 x8_2).f1).length : Int) == 0) = true := beq_iff_eq.mpr c17
                          have c17b1 : ((((rd_T31 t103 x8_2).f1).length : Int) != 0) = false := bne_eq_false_iff_eq.mpr c17
                          clear c17
                          have H' := Aside0.mk H
                          clear H
                          have p108 : 0 ≤ (x8_2 : Int) := of_decide_eq_true (by first | (with_reducible assumption) | assumption)
                          have q108 : x8_2 < (t103.length : Int) := of_decide_eq_true (by first | (with_reducible assumption) | assumption)
                          obtain ⟨ad108, A108_1, c108_1, e108, hx108_0, hx108_1, hl108_1, hi108_1⟩ := at_T31 (Kd.S_reads' HO_4.out).2.2 x8_2 p108 q108
                          (try rw [← Nbq15.out] at hx108_0)
                          cases e108
                          obtain ⟨ce108, hce108, hMe108, hcc108⟩ := Kd.S_get HO_4.out z31 x8_2 p108 (by first | exact q108 | exact of_decide_eq_true (by first | (with_reducible assumption) | assumption) | (have e_ := (Kd.S_reads' HO_4.out).1; omega))
                          obtain ⟨ve108_1, rfl, ge108_1⟩ := k31_openM hMe108
                          have hv108_1 := hcc108 1 _ rfl
                          rw [add_field _ _ 1 (by omega)] at hv108_1
                          replace hv108_1 := Option.some.inj (hv108_1.symm.trans hx108_1)
                          rw [hv108_1] at ge108_1
                          have HL108_1 := Aside0.mk (show Kd.R k33 33 _ _ _ _ ((rd_T31 t103 x8_2).f1) from ge108_1)
                          clear hv108_1 ge108_1
                          clear hcc108 hce108
                          have HR108_1 := Aside0.mk hi108_1
                          have HC108_1 := Aside0.mk hl108_1
                          clear hi108_1 hl108_1
                          replace p108 := eq_true p108
                          replace q108 := eq_true q108
                          have p109 : 0 ≤ (x8_2 : Int) := of_decide_eq_true (by first | (with_reducible assumption) | assumption)
                          have q109 : x8_2 < (t103.length : Int) := of_decide_eq_true (by first | (with_reducible assumption) | assumption)
                          obtain ⟨ad109, A109_1, c109_1, e109, hx109_0, hx109_1, hl109_1, hi109_1⟩ := at_T31 (Kd.S_reads' HO_4.out).2.2 x8_2 p109 q109
                          (try rw [← Nbq15.out] at hx109_0)
                          obtain rfl : ad108 = ad109 := (by injection e109)
                          obtain ⟨ce109, hce109, hMe109, hcc109⟩ := Kd.S_get HO_4.out z31 x8_2 p109 (by first | exact q109 | exact of_decide_eq_true (by first | (with_reducible assumption) | assumption) | (have e_ := (Kd.S_reads' HO_4.out).1; omega))
                          obtain ⟨ve109_1, rfl, ge109_1⟩ := k31_openM hMe109
                          have hv109_1 := hcc109 1 _ rfl
                          rw [add_field _ _ 1 (by omega)] at hv109_1
                          replace hv109_1 := Option.some.inj (hv109_1.symm.trans hx109_1)
                          rw [hv109_1] at ge109_1
                          have HL109_1 := Aside0.mk (show Kd.R k33 33 _ _ _ _ ((rd_T31 t103 x8_2).f1) from ge109_1)
                          clear hv109_1 ge109_1
                          clear hcc109 hce109
                          have HR109_1 := Aside0.mk hi109_1
                          have HC109_1 := Aside0.mk hl109_1
                          clear hi109_1 hl109_1
                          replace p109 := eq_true p109
                          replace q109 := eq_true q109
                          have ea_ := Option.some.inj (hx108_1.symm.trans hx109_1)
                          injection ea_ with ea_ en_ ec_
                          subst ea_
                          subst ec_
                          clear en_
                          go_wp2
                          repeat (go_quiet (fail); try go_wp2)
                          go_meet
                          case rel => exact ⟨_, (decide ((l0.length : Int) > 0)), (by first | rfl | (simp; done) | (simp [*]; done)), H', ⟨by have := HK1.out; have := HK2.out; first | omega | exact Nat.le_refl _⟩, ⟨by (with_reducible repeat (first | apply Kd.S_alloc | apply Kd.S_drewN | apply Kd.S_drew)); exact HO_4.out⟩, ⟨by repeat (first | (with_reducible first | exact HB.out | apply below_alloc | apply pw_below_drewN | apply below_drew1) | exact HB.out)⟩⟩
                        · rw [if_neg c17] at H
                          have c17b0 : ((((rd_T31 t103 x8_2).f1).length : Int) == 0) = false := beq_eq_false_iff_ne.mpr c17
                          have c17b1 : ((((rd_T31 t103 x8_2).f1).length : Int) != 0) = true := bne_iff_ne.mpr c17
                          have c17b2 : ¬ (((rd_T31 t103 x8_2).f1) = []) := fun h_ => c17 (by rw [h_]; rfl)
                          have H' := Aside0.mk H
                          clear H
                          have p108 : 0 ≤ (x8_2 : Int) := of_decide_eq_true (by first | (with_reducible assumption) | assumption)
                          have q108 : x8_2 < (t103.length : Int) := of_decide_eq_true (by first | (with_reducible assumption) | assumption)
                          obtain ⟨ad108, A108_1, c108_1, e108, hx108_0, hx108_1, hl108_1, hi108_1⟩ := at_T31 (Kd.S_reads' HO_4.out).2.2 x8_2 p108 q108
                          (try rw [← Nbq15.out] at hx108_0)
                          cases e108
                          obtain ⟨ce108, hce108, hMe108, hcc108⟩ := Kd.S_get HO_4.out z31 x8_2 p108 (by first | exact q108 | exact of_decide_eq_true (by first | (with_reducible assumption) | assumption) | (have e_ := (Kd.S_reads' HO_4.out).1; omega))
                          obtain ⟨ve108_1, rfl, ge108_1⟩ := k31_openM hMe108
                          have hv108_1 := hcc108 1 _ rfl
                          rw [add_field _ _ 1 (by omega)] at hv108_1
                          replace hv108_1 := Option.some.inj (hv108_1.symm.trans hx108_1)
                          rw [hv108_1] at ge108_1
                          have HL108_1 := Aside0.mk (show Kd.R k33 33 _ _ _ _ ((rd_T31 t103 x8_2).f1) from ge108_1)
                          clear hv108_1 ge108_1
                          clear hcc108 hce108
                          have HR108_1 := Aside0.mk hi108_1
                          have HC108_1 := Aside0.mk hl108_1
                          clear hi108_1 hl108_1
                          replace p108 := eq_true p108
                          replace q108 := eq_true q108
                          have p109 : 0 ≤ (x8_2 : Int) := of_decide_eq_true (by first | (with_reducible assumption) | assumption)
                          have q109 : x8_2 < (t103.length : Int) := of_decide_eq_true (by first | (with_reducible assumption) | assumption)
                          obtain ⟨ad109, A109_1, c109_1, e109, hx109_0, hx109_1, hl109_1, hi109_1⟩ := at_T31 (Kd.S_reads' HO_4.out).2.2 x8_2 p109 q109
                          (try rw [← Nbq15.out] at hx109_0)
                          obtain rfl : ad108 = ad109 := (by injection e109)
                          obtain ⟨ce109, hce109, hMe109, hcc109⟩ := Kd.S_get HO_4.out z31 x8_2 p109 (by first | exact q109 | exact of_decide_eq_true (by first | (with_reducible assumption) | assumption) | (have e_ := (Kd.S_reads' HO_4.out).1; omega))
                          obtain ⟨ve109_1, rfl, ge109_1⟩ := k31_openM hMe109
                          have hv109_1 := hcc109 1 _ rfl
                          rw [add_field _ _ 1 (by omega)] at hv109_1
                          replace hv109_1 := Option.some.inj (hv109_1.symm.trans hx109_1)
                          rw [hv109_1] at ge109_1
                          have HL109_1 := Aside0.mk (show Kd.R k33 33 _ _ _ _ ((rd_T31 t103 x8_2).f1) from ge109_1)
                          clear hv109_1 ge109_1
                          clear hcc109 hce109
                          have HR109_1 := Aside0.mk hi109_1
                          have HC109_1 := Aside0.mk hl109_1
                          clear hi109_1 hl109_1
                          replace p109 := eq_true p109
                          replace q109 := eq_true q109
                          have ea_ := Option.some.inj (hx108_1.symm.trans hx109_1)
                          injection ea_ with ea_ en_ ec_
                          subst ea_
                          subst ec_
                          clear en_
                          go_wp2
                          repeat (go_quiet (fail); try go_wp2)
                          go_meet
                          case rel => exact ⟨_, (false), (by first | rfl | (simp; done) | (simp [*]; done)), H', ⟨by have := HK1.out; have := HK2.out; first | omega | exact Nat.le_refl _⟩, ⟨by (with_reducible repeat (first | apply Kd.S_alloc | apply Kd.S_drewN | apply Kd.S_drew)); exact HO_4.out⟩, ⟨by repeat (first | (with_reducible first | exact HB.out | apply below_alloc | apply pw_below_drewN | apply below_drew1) | exact HB.out)⟩⟩
                    · rw [if_neg c14] at H
                      exact absurd H (by simp)
                  case rest =>
                    clear HC12
                    try clear c1
                    try clear p1
                    try clear q1
                    try clear hx1
                    try clear p2
                    try clear c3
                    try clear c4
                    try clear c6
                    try clear c6b0
                    try clear c6b1
                    try clear p6
                    try clear c9
                    try clear c9b0
                    try clear c10
                    try clear c10b0
                    try clear p10
                    try clear q10
                    try clear hx10
                    try clear c11
                    try clear c11b0
                    try clear c14
                    try clear c14b0
                    try clear q15
                    try clear c16
                    try clear c17
                    try clear c17b0
                    try clear c17b1
                    try clear c17b2
                    try clear hx107_0
                    try clear hx108_0
                    try clear hx108_1
                    try clear hx109_0
                    try clear hx109_1
                    try clear p1
                    try clear p10
                    try clear p107
                    try clear p108
                    try clear p109
                    try clear p2
                    try clear p6
                    try clear q1
                    try clear q10
                    try clear q107
                    try clear q108
                    try clear q109
                    obtain ⟨kq, x62_11, rfl, HA, HJ11, HO_4, HB⟩ := hcut
                    cases kq with
                    | zero => exact absurd HA.out (by simp [manteletlaw14_DawLeast.j2])
                    | succ kj11 =>
                      have H := HA.out
                      clear HA
                      simp only [manteletlaw14_DawLeast.j2] at H
                      by_cases c18 : x62_11 = true
                      · subst c18
                        have H1 : (some false) = some r := by rw [if_pos rfl] at H; exact H
                        clear H
                        have H := H1
                        clear H1
                        obtain rfl := Option.some.inj H
                        go_wp2
                        repeat (go_quiet (fail); try go_wp2)
                        go_ret
                        exact ⟨by first | rfl | (simp [errW_none, errW_some] <;> rfl) | (simp [*, errW_none, errW_some] <;> rfl), by repeat (first | (with_reducible first | exact HB.out | apply below_alloc | apply pw_below_drewN | apply below_drew1) | exact HB.out)⟩
                      · replace c18 := Bool.eq_false_iff.mpr c18
                        subst c18
                        have H1 : (manteletlaw14_DawLeast.l2 kj11 l0 t101 t103 x6_1 x8_2 0) = some r := by rw [if_neg (show ¬ (false = true) by decide)] at H; exact H
                        clear H
                        have H := H1
                        clear H1
                        have H' := Aside0.mk H
                        clear H
                        go_wp2
                        repeat (go_quiet (fail); try go_wp2)
                        go_loopg [9] kj11 (fun kq v9 w' => ∃ (x9_4 : Int), v9 = .int .i64 x9_4 ∧ Aside0 (manteletlaw14_DawLeast.l2 kq l0 t101 t103 x6_1 x8_2 x9_4 = some r) ∧ Aside0 (kq ≤ kj11) ∧ Aside0 (Kd.S k31 31 w' w.heap.size (fun _ => True) (.slice Ao13 t103.length co13) t103) ∧ Aside0 (Below w.heap.size w w'))
                        case atStart => exact ⟨(0), (by first | rfl | (simp; done) | (simp [*]; done)), H', ⟨Nat.le_refl _⟩, ⟨by (with_reducible repeat (first | apply Kd.S_alloc | apply Kd.S_drewN | apply Kd.S_drew)); exact HO_4.out⟩, ⟨by repeat (first | (with_reducible first | exact HB.out | apply below_alloc | apply pw_below_drewN | apply below_drew1) | exact HB.out)⟩⟩
                        case round =>
                          clear H'
                          try clear c1
                          try clear p1
                          try clear q1
                          try clear hx1
                          try clear p2
                          try clear c3
                          try clear c4
                          try clear c6
                          try clear c6b0
                          try clear c6b1
                          try clear p6
                          try clear c9
                          try clear c9b0
                          try clear c10
                          try clear c10b0
                          try clear p10
                          try clear q10
                          try clear hx10
                          try clear c11
                          try clear c11b0
                          try clear c14
                          try clear c14b0
                          try clear q15
                          try clear c16
                          try clear c17
                          try clear c17b0
                          try clear c17b1
                          try clear c17b2
                          try clear c18
                          try clear hx107_0
                          try clear hx108_0
                          try clear hx108_1
                          try clear hx109_0
                          try clear hx109_1
                          try clear p1
                          try clear p10
                          try clear p107
                          try clear p108
                          try clear p109
                          try clear p2
                          try clear p6
                          try clear q1
                          try clear q10
                          try clear q107
                          try clear q108
                          try clear q109
                          try clear q15
                          obtain ⟨x9_4, rfl, HA, HK4, HO_4, HB⟩ := hrel
                          cases gk with
                          | zero => exact absurd HA.out (by simp [manteletlaw14_DawLeast.l2])
                          | succ k4 =>
                            have H := HA.out
                            clear HA
                            simp only [manteletlaw14_DawLeast.l2] at H
                            by_cases c19 : 0 ≤ x8_2
                            · rw [if_pos c19] at H
                              have c19b0 : decide (0 ≤ x8_2) = true := decide_eq_true c19
                              clear c19
                              by_cases c20 : x8_2 < (t103.length : Int)
                              · rw [if_pos c20] at H
                                have c20b0 : decide (x8_2 < (t103.length : Int)) = true := decide_eq_true c20
                                clear c20
                                by_cases c21 : x9_4 < (((rd_T31 t103 x8_2).f1).length : Int)
                                · rw [if_pos c21] at H
                                  have c21b0 : decide (x9_4 < (((rd_T31 t103 x8_2).f1).length : Int)) = true := decide_eq_true c21
                                  clear c21
                                  by_cases c22 : 0 ≤ x9_4
                                  · rw [if_pos c22] at H
                                    have c22b0 : decide (0 ≤ x9_4) = true := decide_eq_true c22
                                    clear c22
                                    by_cases c23 : ((rd_T33 ((rd_T31 t103 x8_2).f1) x9_4).f1) ≥ x8_2
                                    · rw [if_pos c23] at H
                                      have c23b0 : decide (x8_2 ≤ ((rd_T33 ((rd_T31 t103 x8_2).f1) x9_4).f1)) = true := decide_eq_true c23
                                      clear c23
                                      obtain rfl := Option.some.inj H
                                      have p110 : 0 ≤ (x8_2 : Int) := of_decide_eq_true (by first | (with_reducible assumption) | assumption)
                                      have q110 : x8_2 < (t103.length : Int) := of_decide_eq_true (by first | (with_reducible assumption) | assumption)
                                      obtain ⟨ad110, A110_1, c110_1, e110, hx110_0, hx110_1, hl110_1, hi110_1⟩ := at_T31 (Kd.S_reads' HO_4.out).2.2 x8_2 p110 q110
                                      cases e110
                                      obtain ⟨ce110, hce110, hMe110, hcc110⟩ := Kd.S_get HO_4.out z31 x8_2 p110 (by first | exact q110 | exact of_decide_eq_true (by first | (with_reducible assumption) | assumption) | (have e_ := (Kd.S_reads' HO_4.out).1; omega))
                                      obtain ⟨ve110_1, rfl, ge110_1⟩ := k31_openM hMe110
                                      have hv110_1 := hcc110 1 _ rfl
                                      rw [add_field _ _ 1 (by omega)] at hv110_1
                                      replace hv110_1 := Option.some.inj (hv110_1.symm.trans hx110_1)
                                      rw [hv110_1] at ge110_1
                                      have HL110_1 := Aside0.mk (show Kd.R k33 33 _ _ _ _ ((rd_T31 t103 x8_2).f1) from ge110_1)
                                      clear hv110_1 ge110_1
                                      clear hcc110 hce110
                                      have HR110_1 := Aside0.mk hi110_1
                                      have HC110_1 := Aside0.mk hl110_1
                                      clear hi110_1 hl110_1
                                      replace p110 := eq_true p110
                                      replace q110 := eq_true q110
                                      have p111 : 0 ≤ (x8_2 : Int) := of_decide_eq_true (by first | (with_reducible assumption) | assumption)
                                      have q111 : x8_2 < (t103.length : Int) := of_decide_eq_true (by first | (with_reducible assumption) | assumption)
                                      obtain ⟨ad111, A111_1, c111_1, e111, hx111_0, hx111_1, hl111_1, hi111_1⟩ := at_T31 (Kd.S_reads' HO_4.out).2.2 x8_2 p111 q111
                                      obtain rfl : ad110 = ad111 := (by injection e111)
                                      obtain ⟨ce111, hce111, hMe111, hcc111⟩ := Kd.S_get HO_4.out z31 x8_2 p111 (by first | exact q111 | exact of_decide_eq_true (by first | (with_reducible assumption) | assumption) | (have e_ := (Kd.S_reads' HO_4.out).1; omega))
                                      obtain ⟨ve111_1, rfl, ge111_1⟩ := k31_openM hMe111
                                      have hv111_1 := hcc111 1 _ rfl
                                      rw [add_field _ _ 1 (by omega)] at hv111_1
                                      replace hv111_1 := Option.some.inj (hv111_1.symm.trans hx111_1)
                                      rw [hv111_1] at ge111_1
                                      have HL111_1 := Aside0.mk (show Kd.R k33 33 _ _ _ _ ((rd_T31 t103 x8_2).f1) from ge111_1)
                                      clear hv111_1 ge111_1
                                      clear hcc111 hce111
                                      have HR111_1 := Aside0.mk hi111_1
                                      have HC111_1 := Aside0.mk hl111_1
                                      clear hi111_1 hl111_1
                                      replace p111 := eq_true p111
                                      replace q111 := eq_true q111
                                      have ea_ := Option.some.inj (hx110_1.symm.trans hx111_1)
                                      injection ea_ with ea_ en_ ec_
                                      subst ea_
                                      subst ec_
                                      clear en_
                                      have p112 : 0 ≤ (x9_4 : Int) := of_decide_eq_true (by first | (with_reducible assumption) | assumption)
                                      have q112 : x9_4 < (((rd_T31 t103 x8_2).f1).length : Int) := of_decide_eq_true (by first | (with_reducible assumption) | assumption)
                                      obtain ⟨ad112, e112, hx112_0, hx112_1⟩ := at_T33 (by repeat (first | (with_reducible exact HR111_1.out) | (with_reducible refine Kd.C_alloc ?_ _) | (with_reducible refine Kd.C_drewN ?_ _) | (with_reducible refine Kd.C_drew ?_) | exact HR111_1.out)) x9_4 p112 q112
                                      cases e112
                                      replace p112 := eq_true p112
                                      replace q112 := eq_true q112
                                      go_wp2
                                      repeat (go_quiet (fail); try go_wp2)
                                      go_ret
                                      exact ⟨by first | rfl | (simp [errW_none, errW_some] <;> rfl) | (simp [*, errW_none, errW_some] <;> rfl), by repeat (first | (with_reducible first | exact HB.out | apply below_alloc | apply pw_below_drewN | apply below_drew1) | exact HB.out)⟩
                                    · rw [if_neg c23] at H
                                      have c23b0 : decide (x8_2 ≤ ((rd_T33 ((rd_T31 t103 x8_2).f1) x9_4).f1)) = false := decide_eq_false c23
                                      clear c23
                                      by_cases c24 : ((rd_T33 ((rd_T31 t103 x8_2).f1) x9_4).f1) < 0
                                      · rw [if_pos c24] at H
                                        have c24b0 : decide (((rd_T33 ((rd_T31 t103 x8_2).f1) x9_4).f1) < 0) = true := decide_eq_true c24
                                        clear c24
                                        obtain rfl := Option.some.inj H
                                        have p110 : 0 ≤ (x8_2 : Int) := of_decide_eq_true (by first | (with_reducible assumption) | assumption)
                                        have q110 : x8_2 < (t103.length : Int) := of_decide_eq_true (by first | (with_reducible assumption) | assumption)
                                        obtain ⟨ad110, A110_1, c110_1, e110, hx110_0, hx110_1, hl110_1, hi110_1⟩ := at_T31 (Kd.S_reads' HO_4.out).2.2 x8_2 p110 q110
                                        cases e110
                                        obtain ⟨ce110, hce110, hMe110, hcc110⟩ := Kd.S_get HO_4.out z31 x8_2 p110 (by first | exact q110 | exact of_decide_eq_true (by first | (with_reducible assumption) | assumption) | (have e_ := (Kd.S_reads' HO_4.out).1; omega))
                                        obtain ⟨ve110_1, rfl, ge110_1⟩ := k31_openM hMe110
                                        have hv110_1 := hcc110 1 _ rfl
                                        rw [add_field _ _ 1 (by omega)] at hv110_1
                                        replace hv110_1 := Option.some.inj (hv110_1.symm.trans hx110_1)
                                        rw [hv110_1] at ge110_1
                                        have HL110_1 := Aside0.mk (show Kd.R k33 33 _ _ _ _ ((rd_T31 t103 x8_2).f1) from ge110_1)
                                        clear hv110_1 ge110_1
                                        clear hcc110 hce110
                                        have HR110_1 := Aside0.mk hi110_1
                                        have HC110_1 := Aside0.mk hl110_1
                                        clear hi110_1 hl110_1
                                        replace p110 := eq_true p110
                                        replace q110 := eq_true q110
                                        have p111 : 0 ≤ (x8_2 : Int) := of_decide_eq_true (by first | (with_reducible assumption) | assumption)
                                        have q111 : x8_2 < (t103.length : Int) := of_decide_eq_true (by first | (with_reducible assumption) | assumption)
                                        obtain ⟨ad111, A111_1, c111_1, e111, hx111_0, hx111_1, hl111_1, hi111_1⟩ := at_T31 (Kd.S_reads' HO_4.out).2.2 x8_2 p111 q111
                                        obtain rfl : ad110 = ad111 := (by injection e111)
                                        obtain ⟨ce111, hce111, hMe111, hcc111⟩ := Kd.S_get HO_4.out z31 x8_2 p111 (by first | exact q111 | exact of_decide_eq_true (by first | (with_reducible assumption) | assumption) | (have e_ := (Kd.S_reads' HO_4.out).1; omega))
                                        obtain ⟨ve111_1, rfl, ge111_1⟩ := k31_openM hMe111
                                        have hv111_1 := hcc111 1 _ rfl
                                        rw [add_field _ _ 1 (by omega)] at hv111_1
                                        replace hv111_1 := Option.some.inj (hv111_1.symm.trans hx111_1)
                                        rw [hv111_1] at ge111_1
                                        have HL111_1 := Aside0.mk (show Kd.R k33 33 _ _ _ _ ((rd_T31 t103 x8_2).f1) from ge111_1)
                                        clear hv111_1 ge111_1
                                        clear hcc111 hce111
                                        have HR111_1 := Aside0.mk hi111_1
                                        have HC111_1 := Aside0.mk hl111_1
                                        clear hi111_1 hl111_1
                                        replace p111 := eq_true p111
                                        replace q111 := eq_true q111
                                        have ea_ := Option.some.inj (hx110_1.symm.trans hx111_1)
                                        injection ea_ with ea_ en_ ec_
                                        subst ea_
                                        subst ec_
                                        clear en_
                                        have p112 : 0 ≤ (x9_4 : Int) := of_decide_eq_true (by first | (with_reducible assumption) | assumption)
                                        have q112 : x9_4 < (((rd_T31 t103 x8_2).f1).length : Int) := of_decide_eq_true (by first | (with_reducible assumption) | assumption)
                                        obtain ⟨ad112, e112, hx112_0, hx112_1⟩ := at_T33 (by repeat (first | (with_reducible exact HR111_1.out) | (with_reducible refine Kd.C_alloc ?_ _) | (with_reducible refine Kd.C_drewN ?_ _) | (with_reducible refine Kd.C_drew ?_) | exact HR111_1.out)) x9_4 p112 q112
                                        cases e112
                                        replace p112 := eq_true p112
                                        replace q112 := eq_true q112
                                        have p113 : 0 ≤ (x8_2 : Int) := of_decide_eq_true (by first | (with_reducible assumption) | assumption)
                                        have q113 : x8_2 < (t103.length : Int) := of_decide_eq_true (by first | (with_reducible assumption) | assumption)
                                        obtain ⟨ad113, A113_1, c113_1, e113, hx113_0, hx113_1, hl113_1, hi113_1⟩ := at_T31 (Kd.S_reads' HO_4.out).2.2 x8_2 p113 q113
                                        obtain rfl : ad110 = ad113 := (by injection e113)
                                        obtain ⟨ce113, hce113, hMe113, hcc113⟩ := Kd.S_get HO_4.out z31 x8_2 p113 (by first | exact q113 | exact of_decide_eq_true (by first | (with_reducible assumption) | assumption) | (have e_ := (Kd.S_reads' HO_4.out).1; omega))
                                        obtain ⟨ve113_1, rfl, ge113_1⟩ := k31_openM hMe113
                                        have hv113_1 := hcc113 1 _ rfl
                                        rw [add_field _ _ 1 (by omega)] at hv113_1
                                        replace hv113_1 := Option.some.inj (hv113_1.symm.trans hx113_1)
                                        rw [hv113_1] at ge113_1
                                        have HL113_1 := Aside0.mk (show Kd.R k33 33 _ _ _ _ ((rd_T31 t103 x8_2).f1) from ge113_1)
                                        clear hv113_1 ge113_1
                                        clear hcc113 hce113
                                        have HR113_1 := Aside0.mk hi113_1
                                        have HC113_1 := Aside0.mk hl113_1
                                        clear hi113_1 hl113_1
                                        replace p113 := eq_true p113
                                        replace q113 := eq_true q113
                                        have ea_ := Option.some.inj (hx110_1.symm.trans hx113_1)
                                        injection ea_ with ea_ en_ ec_
                                        subst ea_
                                        subst ec_
                                        clear en_
                                        have p114 : 0 ≤ (x9_4 : Int) := of_decide_eq_true (by first | (with_reducible assumption) | assumption)
                                        have q114 : x9_4 < (((rd_T31 t103 x8_2).f1).length : Int) := of_decide_eq_true (by first | (with_reducible assumption) | assumption)
                                        obtain ⟨ad114, e114, hx114_0, hx114_1⟩ := at_T33 (by repeat (first | (with_reducible exact HR113_1.out) | (with_reducible refine Kd.C_alloc ?_ _) | (with_reducible refine Kd.C_drewN ?_ _) | (with_reducible refine Kd.C_drew ?_) | exact HR113_1.out)) x9_4 p114 q114
                                        cases e114
                                        replace p114 := eq_true p114
                                        replace q114 := eq_true q114
                                        go_wp2
                                        repeat (go_quiet (fail); try go_wp2)
                                        go_ret
                                        exact ⟨by first | rfl | (simp [errW_none, errW_some] <;> rfl) | (simp [*, errW_none, errW_some] <;> rfl), by repeat (first | (with_reducible first | exact HB.out | apply below_alloc | apply pw_below_drewN | apply below_drew1) | exact HB.out)⟩
                                      · rw [if_neg c24] at H
                                        have c24b0 : decide (((rd_T33 ((rd_T31 t103 x8_2).f1) x9_4).f1) < 0) = false := decide_eq_false c24
                                        clear c24
                                        by_cases c25 : x9_4 > 0
                                        · rw [if_pos c25] at H
                                          have c25b0 : decide (0 < x9_4) = true := decide_eq_true c25
                                          clear c25
                                          obtain ⟨ji26, hji26⟩ : ∃ j_ : Int, (wrap64 (x9_4 - 1)) = j_ := ⟨_, rfl⟩
                                          replace H : (if 0 ≤ (ji26) then (if (ji26) < (((rd_T31 t103 x8_2).f1).length : Int) then (if ((rd_T33 ((rd_T31 t103 x8_2).f1) x9_4).f0) ≤ ((rd_T33 ((rd_T31 t103 x8_2).f1) (ji26)).f0) then (some false) else (manteletlaw14_DawLeast.l2 k4 l0 t101 t103 x6_1 x8_2 (wrap64 (x9_4 + 1)))) else (none)) else (none)) = some r := by first | (rw [hji26] at H; exact H) | (simp only [hji26] at H ⊢; exact H)
                                          have hji26w : (IntKind.i64.wrap (x9_4 - 1)) = ji26 := (i64_w _).trans hji26
                                          by_cases c27 : 0 ≤ (ji26)
                                          · rw [if_pos c27] at H
                                            have c27b0 : decide (0 ≤ (ji26)) = true := decide_eq_true c27
                                            clear c27
                                            by_cases c28 : (ji26) < (((rd_T31 t103 x8_2).f1).length : Int)
                                            · rw [if_pos c28] at H
                                              have c28b0 : decide ((ji26) < (((rd_T31 t103 x8_2).f1).length : Int)) = true := decide_eq_true c28
                                              clear c28
                                              by_cases c29 : ((rd_T33 ((rd_T31 t103 x8_2).f1) x9_4).f0) ≤ ((rd_T33 ((rd_T31 t103 x8_2).f1) (ji26)).f0)
                                              · rw [if_pos c29] at H
                                                have c29b0 : decide (((rd_T33 ((rd_T31 t103 x8_2).f1) x9_4).f0) ≤ ((rd_T33 ((rd_T31 t103 x8_2).f1) (ji26)).f0)) = true := decide_eq_true c29
                                                clear c29
                                                obtain rfl := Option.some.inj H
                                                have p110 : 0 ≤ (x8_2 : Int) := of_decide_eq_true (by first | (with_reducible assumption) | assumption)
                                                have q110 : x8_2 < (t103.length : Int) := of_decide_eq_true (by first | (with_reducible assumption) | assumption)
                                                obtain ⟨ad110, A110_1, c110_1, e110, hx110_0, hx110_1, hl110_1, hi110_1⟩ := at_T31 (Kd.S_reads' HO_4.out).2.2 x8_2 p110 q110
                                                cases e110
                                                obtain ⟨ce110, hce110, hMe110, hcc110⟩ := Kd.S_get HO_4.out z31 x8_2 p110 (by first | exact q110 | exact of_decide_eq_true (by first | (with_reducible assumption) | assumption) | (have e_ := (Kd.S_reads' HO_4.out).1; omega))
                                                obtain ⟨ve110_1, rfl, ge110_1⟩ := k31_openM hMe110
                                                have hv110_1 := hcc110 1 _ rfl
                                                rw [add_field _ _ 1 (by omega)] at hv110_1
                                                replace hv110_1 := Option.some.inj (hv110_1.symm.trans hx110_1)
                                                rw [hv110_1] at ge110_1
                                                have HL110_1 := Aside0.mk (show Kd.R k33 33 _ _ _ _ ((rd_T31 t103 x8_2).f1) from ge110_1)
                                                clear hv110_1 ge110_1
                                                clear hcc110 hce110
                                                have HR110_1 := Aside0.mk hi110_1
                                                have HC110_1 := Aside0.mk hl110_1
                                                clear hi110_1 hl110_1
                                                replace p110 := eq_true p110
                                                replace q110 := eq_true q110
                                                have p111 : 0 ≤ (x8_2 : Int) := of_decide_eq_true (by first | (with_reducible assumption) | assumption)
                                                have q111 : x8_2 < (t103.length : Int) := of_decide_eq_true (by first | (with_reducible assumption) | assumption)
                                                obtain ⟨ad111, A111_1, c111_1, e111, hx111_0, hx111_1, hl111_1, hi111_1⟩ := at_T31 (Kd.S_reads' HO_4.out).2.2 x8_2 p111 q111
                                                obtain rfl : ad110 = ad111 := (by injection e111)
                                                obtain ⟨ce111, hce111, hMe111, hcc111⟩ := Kd.S_get HO_4.out z31 x8_2 p111 (by first | exact q111 | exact of_decide_eq_true (by first | (with_reducible assumption) | assumption) | (have e_ := (Kd.S_reads' HO_4.out).1; omega))
                                                obtain ⟨ve111_1, rfl, ge111_1⟩ := k31_openM hMe111
                                                have hv111_1 := hcc111 1 _ rfl
                                                rw [add_field _ _ 1 (by omega)] at hv111_1
                                                replace hv111_1 := Option.some.inj (hv111_1.symm.trans hx111_1)
                                                rw [hv111_1] at ge111_1
                                                have HL111_1 := Aside0.mk (show Kd.R k33 33 _ _ _ _ ((rd_T31 t103 x8_2).f1) from ge111_1)
                                                clear hv111_1 ge111_1
                                                clear hcc111 hce111
                                                have HR111_1 := Aside0.mk hi111_1
                                                have HC111_1 := Aside0.mk hl111_1
                                                clear hi111_1 hl111_1
                                                replace p111 := eq_true p111
                                                replace q111 := eq_true q111
                                                have ea_ := Option.some.inj (hx110_1.symm.trans hx111_1)
                                                injection ea_ with ea_ en_ ec_
                                                subst ea_
                                                subst ec_
                                                clear en_
                                                have p112 : 0 ≤ (x9_4 : Int) := of_decide_eq_true (by first | (with_reducible assumption) | assumption)
                                                have q112 : x9_4 < (((rd_T31 t103 x8_2).f1).length : Int) := of_decide_eq_true (by first | (with_reducible assumption) | assumption)
                                                obtain ⟨ad112, e112, hx112_0, hx112_1⟩ := at_T33 (by repeat (first | (with_reducible exact HR111_1.out) | (with_reducible refine Kd.C_alloc ?_ _) | (with_reducible refine Kd.C_drewN ?_ _) | (with_reducible refine Kd.C_drew ?_) | exact HR111_1.out)) x9_4 p112 q112
                                                cases e112
                                                replace p112 := eq_true p112
                                                replace q112 := eq_true q112
                                                have p113 : 0 ≤ (x8_2 : Int) := of_decide_eq_true (by first | (with_reducible assumption) | assumption)
                                                have q113 : x8_2 < (t103.length : Int) := of_decide_eq_true (by first | (with_reducible assumption) | assumption)
                                                obtain ⟨ad113, A113_1, c113_1, e113, hx113_0, hx113_1, hl113_1, hi113_1⟩ := at_T31 (Kd.S_reads' HO_4.out).2.2 x8_2 p113 q113
                                                obtain rfl : ad110 = ad113 := (by injection e113)
                                                obtain ⟨ce113, hce113, hMe113, hcc113⟩ := Kd.S_get HO_4.out z31 x8_2 p113 (by first | exact q113 | exact of_decide_eq_true (by first | (with_reducible assumption) | assumption) | (have e_ := (Kd.S_reads' HO_4.out).1; omega))
                                                obtain ⟨ve113_1, rfl, ge113_1⟩ := k31_openM hMe113
                                                have hv113_1 := hcc113 1 _ rfl
                                                rw [add_field _ _ 1 (by omega)] at hv113_1
                                                replace hv113_1 := Option.some.inj (hv113_1.symm.trans hx113_1)
                                                rw [hv113_1] at ge113_1
                                                have HL113_1 := Aside0.mk (show Kd.R k33 33 _ _ _ _ ((rd_T31 t103 x8_2).f1) from ge113_1)
                                                clear hv113_1 ge113_1
                                                clear hcc113 hce113
                                                have HR113_1 := Aside0.mk hi113_1
                                                have HC113_1 := Aside0.mk hl113_1
                                                clear hi113_1 hl113_1
                                                replace p113 := eq_true p113
                                                replace q113 := eq_true q113
                                                have ea_ := Option.some.inj (hx110_1.symm.trans hx113_1)
                                                injection ea_ with ea_ en_ ec_
                                                subst ea_
                                                subst ec_
                                                clear en_
                                                have p114 : 0 ≤ (x9_4 : Int) := of_decide_eq_true (by first | (with_reducible assumption) | assumption)
                                                have q114 : x9_4 < (((rd_T31 t103 x8_2).f1).length : Int) := of_decide_eq_true (by first | (with_reducible assumption) | assumption)
                                                obtain ⟨ad114, e114, hx114_0, hx114_1⟩ := at_T33 (by repeat (first | (with_reducible exact HR113_1.out) | (with_reducible refine Kd.C_alloc ?_ _) | (with_reducible refine Kd.C_drewN ?_ _) | (with_reducible refine Kd.C_drew ?_) | exact HR113_1.out)) x9_4 p114 q114
                                                cases e114
                                                replace p114 := eq_true p114
                                                replace q114 := eq_true q114
                                                have p115 : 0 ≤ (x8_2 : Int) := of_decide_eq_true (by first | (with_reducible assumption) | assumption)
                                                have q115 : x8_2 < (t103.length : Int) := of_decide_eq_true (by first | (with_reducible assumption) | assumption)
                                                obtain ⟨ad115, A115_1, c115_1, e115, hx115_0, hx115_1, hl115_1, hi115_1⟩ := at_T31 (Kd.S_reads' HO_4.out).2.2 x8_2 p115 q115
                                                obtain rfl : ad110 = ad115 := (by injection e115)
                                                obtain ⟨ce115, hce115, hMe115, hcc115⟩ := Kd.S_get HO_4.out z31 x8_2 p115 (by first | exact q115 | exact of_decide_eq_true (by first | (with_reducible assumption) | assumption) | (have e_ := (Kd.S_reads' HO_4.out).1; omega))
                                                obtain ⟨ve115_1, rfl, ge115_1⟩ := k31_openM hMe115
                                                have hv115_1 := hcc115 1 _ rfl
                                                rw [add_field _ _ 1 (by omega)] at hv115_1
                                                replace hv115_1 := Option.some.inj (hv115_1.symm.trans hx115_1)
                                                rw [hv115_1] at ge115_1
                                                have HL115_1 := Aside0.mk (show Kd.R k33 33 _ _ _ _ ((rd_T31 t103 x8_2).f1) from ge115_1)
                                                clear hv115_1 ge115_1
                                                clear hcc115 hce115
                                                have HR115_1 := Aside0.mk hi115_1
                                                have HC115_1 := Aside0.mk hl115_1
                                                clear hi115_1 hl115_1
                                                replace p115 := eq_true p115
                                                replace q115 := eq_true q115
                                                have ea_ := Option.some.inj (hx110_1.symm.trans hx115_1)
                                                injection ea_ with ea_ en_ ec_
                                                subst ea_
                                                subst ec_
                                                clear en_
                                                have p116 : 0 ≤ (x9_4 : Int) := of_decide_eq_true (by first | (with_reducible assumption) | assumption)
                                                have q116 : x9_4 < (((rd_T31 t103 x8_2).f1).length : Int) := of_decide_eq_true (by first | (with_reducible assumption) | assumption)
                                                obtain ⟨ad116, e116, hx116_0, hx116_1⟩ := at_T33 (by repeat (first | (with_reducible exact HR115_1.out) | (with_reducible refine Kd.C_alloc ?_ _) | (with_reducible refine Kd.C_drewN ?_ _) | (with_reducible refine Kd.C_drew ?_) | exact HR115_1.out)) x9_4 p116 q116
                                                cases e116
                                                replace p116 := eq_true p116
                                                replace q116 := eq_true q116
                                                have p117 : 0 ≤ (x8_2 : Int) := of_decide_eq_true (by first | (with_reducible assumption) | assumption)
                                                have q117 : x8_2 < (t103.length : Int) := of_decide_eq_true (by first | (with_reducible assumption) | assumption)
                                                obtain ⟨ad117, A117_1, c117_1, e117, hx117_0, hx117_1, hl117_1, hi117_1⟩ := at_T31 (Kd.S_reads' HO_4.out).2.2 x8_2 p117 q117
                                                obtain rfl : ad110 = ad117 := (by injection e117)
                                                obtain ⟨ce117, hce117, hMe117, hcc117⟩ := Kd.S_get HO_4.out z31 x8_2 p117 (by first | exact q117 | exact of_decide_eq_true (by first | (with_reducible assumption) | assumption) | (have e_ := (Kd.S_reads' HO_4.out).1; omega))
                                                obtain ⟨ve117_1, rfl, ge117_1⟩ := k31_openM hMe117
                                                have hv117_1 := hcc117 1 _ rfl
                                                rw [add_field _ _ 1 (by omega)] at hv117_1
                                                replace hv117_1 := Option.some.inj (hv117_1.symm.trans hx117_1)
                                                rw [hv117_1] at ge117_1
                                                have HL117_1 := Aside0.mk (show Kd.R k33 33 _ _ _ _ ((rd_T31 t103 x8_2).f1) from ge117_1)
                                                clear hv117_1 ge117_1
                                                clear hcc117 hce117
                                                have HR117_1 := Aside0.mk hi117_1
                                                have HC117_1 := Aside0.mk hl117_1
                                                clear hi117_1 hl117_1
                                                replace p117 := eq_true p117
                                                replace q117 := eq_true q117
                                                have ea_ := Option.some.inj (hx110_1.symm.trans hx117_1)
                                                injection ea_ with ea_ en_ ec_
                                                subst ea_
                                                subst ec_
                                                clear en_
                                                have p118 : 0 ≤ ((ji26) : Int) := of_decide_eq_true (by first | (with_reducible assumption) | assumption)
                                                have q118 : (ji26) < (((rd_T31 t103 x8_2).f1).length : Int) := of_decide_eq_true (by first | (with_reducible assumption) | assumption)
                                                obtain ⟨ad118, e118, hx118_0, hx118_1⟩ := at_T33 (by repeat (first | (with_reducible exact HR117_1.out) | (with_reducible refine Kd.C_alloc ?_ _) | (with_reducible refine Kd.C_drewN ?_ _) | (with_reducible refine Kd.C_drew ?_) | exact HR117_1.out)) (ji26) p118 q118
                                                cases e118
                                                replace p118 := eq_true p118
                                                replace q118 := eq_true q118
                                                go_wp2
                                                repeat (go_quiet (fail); try go_wp2)
                                                go_ret
                                                exact ⟨by first | rfl | (simp [errW_none, errW_some] <;> rfl) | (simp only [← hji26]; first | rfl | (simp [errW_none, errW_some] <;> rfl)) | (simp [*, errW_none, errW_some] <;> rfl), by repeat (first | (with_reducible first | exact HB.out | apply below_alloc | apply pw_below_drewN | apply below_drew1) | exact HB.out)⟩
                                              · rw [if_neg c29] at H
                                                have c29b0 : decide (((rd_T33 ((rd_T31 t103 x8_2).f1) x9_4).f0) ≤ ((rd_T33 ((rd_T31 t103 x8_2).f1) (ji26)).f0)) = false := decide_eq_false c29
                                                clear c29
                                                have H' := Aside0.mk H
                                                clear H
                                                have p110 : 0 ≤ (x8_2 : Int) := of_decide_eq_true (by first | (with_reducible assumption) | assumption)
                                                have q110 : x8_2 < (t103.length : Int) := of_decide_eq_true (by first | (with_reducible assumption) | assumption)
                                                obtain ⟨ad110, A110_1, c110_1, e110, hx110_0, hx110_1, hl110_1, hi110_1⟩ := at_T31 (Kd.S_reads' HO_4.out).2.2 x8_2 p110 q110
                                                cases e110
                                                obtain ⟨ce110, hce110, hMe110, hcc110⟩ := Kd.S_get HO_4.out z31 x8_2 p110 (by first | exact q110 | exact of_decide_eq_true (by first | (with_reducible assumption) | assumption) | (have e_ := (Kd.S_reads' HO_4.out).1; omega))
                                                obtain ⟨ve110_1, rfl, ge110_1⟩ := k31_openM hMe110
                                                have hv110_1 := hcc110 1 _ rfl
                                                rw [add_field _ _ 1 (by omega)] at hv110_1
                                                replace hv110_1 := Option.some.inj (hv110_1.symm.trans hx110_1)
                                                rw [hv110_1] at ge110_1
                                                have HL110_1 := Aside0.mk (show Kd.R k33 33 _ _ _ _ ((rd_T31 t103 x8_2).f1) from ge110_1)
                                                clear hv110_1 ge110_1
                                                clear hcc110 hce110
                                                have HR110_1 := Aside0.mk hi110_1
                                                have HC110_1 := Aside0.mk hl110_1
                                                clear hi110_1 hl110_1
                                                replace p110 := eq_true p110
                                                replace q110 := eq_true q110
                                                have p111 : 0 ≤ (x8_2 : Int) := of_decide_eq_true (by first | (with_reducible assumption) | assumption)
                                                have q111 : x8_2 < (t103.length : Int) := of_decide_eq_true (by first | (with_reducible assumption) | assumption)
                                                obtain ⟨ad111, A111_1, c111_1, e111, hx111_0, hx111_1, hl111_1, hi111_1⟩ := at_T31 (Kd.S_reads' HO_4.out).2.2 x8_2 p111 q111
                                                obtain rfl : ad110 = ad111 := (by injection e111)
                                                obtain ⟨ce111, hce111, hMe111, hcc111⟩ := Kd.S_get HO_4.out z31 x8_2 p111 (by first | exact q111 | exact of_decide_eq_true (by first | (with_reducible assumption) | assumption) | (have e_ := (Kd.S_reads' HO_4.out).1; omega))
                                                obtain ⟨ve111_1, rfl, ge111_1⟩ := k31_openM hMe111
                                                have hv111_1 := hcc111 1 _ rfl
                                                rw [add_field _ _ 1 (by omega)] at hv111_1
                                                replace hv111_1 := Option.some.inj (hv111_1.symm.trans hx111_1)
                                                rw [hv111_1] at ge111_1
                                                have HL111_1 := Aside0.mk (show Kd.R k33 33 _ _ _ _ ((rd_T31 t103 x8_2).f1) from ge111_1)
                                                clear hv111_1 ge111_1
                                                clear hcc111 hce111
                                                have HR111_1 := Aside0.mk hi111_1
                                                have HC111_1 := Aside0.mk hl111_1
                                                clear hi111_1 hl111_1
                                                replace p111 := eq_true p111
                                                replace q111 := eq_true q111
                                                have ea_ := Option.some.inj (hx110_1.symm.trans hx111_1)
                                                injection ea_ with ea_ en_ ec_
                                                subst ea_
                                                subst ec_
                                                clear en_
                                                have p112 : 0 ≤ (x9_4 : Int) := of_decide_eq_true (by first | (with_reducible assumption) | assumption)
                                                have q112 : x9_4 < (((rd_T31 t103 x8_2).f1).length : Int) := of_decide_eq_true (by first | (with_reducible assumption) | assumption)
                                                obtain ⟨ad112, e112, hx112_0, hx112_1⟩ := at_T33 (by repeat (first | (with_reducible exact HR111_1.out) | (with_reducible refine Kd.C_alloc ?_ _) | (with_reducible refine Kd.C_drewN ?_ _) | (with_reducible refine Kd.C_drew ?_) | exact HR111_1.out)) x9_4 p112 q112
                                                cases e112
                                                replace p112 := eq_true p112
                                                replace q112 := eq_true q112
                                                have p113 : 0 ≤ (x8_2 : Int) := of_decide_eq_true (by first | (with_reducible assumption) | assumption)
                                                have q113 : x8_2 < (t103.length : Int) := of_decide_eq_true (by first | (with_reducible assumption) | assumption)
                                                obtain ⟨ad113, A113_1, c113_1, e113, hx113_0, hx113_1, hl113_1, hi113_1⟩ := at_T31 (Kd.S_reads' HO_4.out).2.2 x8_2 p113 q113
                                                obtain rfl : ad110 = ad113 := (by injection e113)
                                                obtain ⟨ce113, hce113, hMe113, hcc113⟩ := Kd.S_get HO_4.out z31 x8_2 p113 (by first | exact q113 | exact of_decide_eq_true (by first | (with_reducible assumption) | assumption) | (have e_ := (Kd.S_reads' HO_4.out).1; omega))
                                                obtain ⟨ve113_1, rfl, ge113_1⟩ := k31_openM hMe113
                                                have hv113_1 := hcc113 1 _ rfl
                                                rw [add_field _ _ 1 (by omega)] at hv113_1
                                                replace hv113_1 := Option.some.inj (hv113_1.symm.trans hx113_1)
                                                rw [hv113_1] at ge113_1
                                                have HL113_1 := Aside0.mk (show Kd.R k33 33 _ _ _ _ ((rd_T31 t103 x8_2).f1) from ge113_1)
                                                clear hv113_1 ge113_1
                                                clear hcc113 hce113
                                                have HR113_1 := Aside0.mk hi113_1
                                                have HC113_1 := Aside0.mk hl113_1
                                                clear hi113_1 hl113_1
                                                replace p113 := eq_true p113
                                                replace q113 := eq_true q113
                                                have ea_ := Option.some.inj (hx110_1.symm.trans hx113_1)
                                                injection ea_ with ea_ en_ ec_
                                                subst ea_
                                                subst ec_
                                                clear en_
                                                have p114 : 0 ≤ (x9_4 : Int) := of_decide_eq_true (by first | (with_reducible assumption) | assumption)
                                                have q114 : x9_4 < (((rd_T31 t103 x8_2).f1).length : Int) := of_decide_eq_true (by first | (with_reducible assumption) | assumption)
                                                obtain ⟨ad114, e114, hx114_0, hx114_1⟩ := at_T33 (by repeat (first | (with_reducible exact HR113_1.out) | (with_reducible refine Kd.C_alloc ?_ _) | (with_reducible refine Kd.C_drewN ?_ _) | (with_reducible refine Kd.C_drew ?_) | exact HR113_1.out)) x9_4 p114 q114
                                                cases e114
                                                replace p114 := eq_true p114
                                                replace q114 := eq_true q114
                                                have p115 : 0 ≤ (x8_2 : Int) := of_decide_eq_true (by first | (with_reducible assumption) | assumption)
                                                have q115 : x8_2 < (t103.length : Int) := of_decide_eq_true (by first | (with_reducible assumption) | assumption)
                                                obtain ⟨ad115, A115_1, c115_1, e115, hx115_0, hx115_1, hl115_1, hi115_1⟩ := at_T31 (Kd.S_reads' HO_4.out).2.2 x8_2 p115 q115
                                                obtain rfl : ad110 = ad115 := (by injection e115)
                                                obtain ⟨ce115, hce115, hMe115, hcc115⟩ := Kd.S_get HO_4.out z31 x8_2 p115 (by first | exact q115 | exact of_decide_eq_true (by first | (with_reducible assumption) | assumption) | (have e_ := (Kd.S_reads' HO_4.out).1; omega))
                                                obtain ⟨ve115_1, rfl, ge115_1⟩ := k31_openM hMe115
                                                have hv115_1 := hcc115 1 _ rfl
                                                rw [add_field _ _ 1 (by omega)] at hv115_1
                                                replace hv115_1 := Option.some.inj (hv115_1.symm.trans hx115_1)
                                                rw [hv115_1] at ge115_1
                                                have HL115_1 := Aside0.mk (show Kd.R k33 33 _ _ _ _ ((rd_T31 t103 x8_2).f1) from ge115_1)
                                                clear hv115_1 ge115_1
                                                clear hcc115 hce115
                                                have HR115_1 := Aside0.mk hi115_1
                                                have HC115_1 := Aside0.mk hl115_1
                                                clear hi115_1 hl115_1
                                                replace p115 := eq_true p115
                                                replace q115 := eq_true q115
                                                have ea_ := Option.some.inj (hx110_1.symm.trans hx115_1)
                                                injection ea_ with ea_ en_ ec_
                                                subst ea_
                                                subst ec_
                                                clear en_
                                                have p116 : 0 ≤ (x9_4 : Int) := of_decide_eq_true (by first | (with_reducible assumption) | assumption)
                                                have q116 : x9_4 < (((rd_T31 t103 x8_2).f1).length : Int) := of_decide_eq_true (by first | (with_reducible assumption) | assumption)
                                                obtain ⟨ad116, e116, hx116_0, hx116_1⟩ := at_T33 (by repeat (first | (with_reducible exact HR115_1.out) | (with_reducible refine Kd.C_alloc ?_ _) | (with_reducible refine Kd.C_drewN ?_ _) | (with_reducible refine Kd.C_drew ?_) | exact HR115_1.out)) x9_4 p116 q116
                                                cases e116
                                                replace p116 := eq_true p116
                                                replace q116 := eq_true q116
                                                have p117 : 0 ≤ (x8_2 : Int) := of_decide_eq_true (by first | (with_reducible assumption) | assumption)
                                                have q117 : x8_2 < (t103.length : Int) := of_decide_eq_true (by first | (with_reducible assumption) | assumption)
                                                obtain ⟨ad117, A117_1, c117_1, e117, hx117_0, hx117_1, hl117_1, hi117_1⟩ := at_T31 (Kd.S_reads' HO_4.out).2.2 x8_2 p117 q117
                                                obtain rfl : ad110 = ad117 := (by injection e117)
                                                obtain ⟨ce117, hce117, hMe117, hcc117⟩ := Kd.S_get HO_4.out z31 x8_2 p117 (by first | exact q117 | exact of_decide_eq_true (by first | (with_reducible assumption) | assumption) | (have e_ := (Kd.S_reads' HO_4.out).1; omega))
                                                obtain ⟨ve117_1, rfl, ge117_1⟩ := k31_openM hMe117
                                                have hv117_1 := hcc117 1 _ rfl
                                                rw [add_field _ _ 1 (by omega)] at hv117_1
                                                replace hv117_1 := Option.some.inj (hv117_1.symm.trans hx117_1)
                                                rw [hv117_1] at ge117_1
                                                have HL117_1 := Aside0.mk (show Kd.R k33 33 _ _ _ _ ((rd_T31 t103 x8_2).f1) from ge117_1)
                                                clear hv117_1 ge117_1
                                                clear hcc117 hce117
                                                have HR117_1 := Aside0.mk hi117_1
                                                have HC117_1 := Aside0.mk hl117_1
                                                clear hi117_1 hl117_1
                                                replace p117 := eq_true p117
                                                replace q117 := eq_true q117
                                                have ea_ := Option.some.inj (hx110_1.symm.trans hx117_1)
                                                injection ea_ with ea_ en_ ec_
                                                subst ea_
                                                subst ec_
                                                clear en_
                                                have p118 : 0 ≤ ((ji26) : Int) := of_decide_eq_true (by first | (with_reducible assumption) | assumption)
                                                have q118 : (ji26) < (((rd_T31 t103 x8_2).f1).length : Int) := of_decide_eq_true (by first | (with_reducible assumption) | assumption)
                                                obtain ⟨ad118, e118, hx118_0, hx118_1⟩ := at_T33 (by repeat (first | (with_reducible exact HR117_1.out) | (with_reducible refine Kd.C_alloc ?_ _) | (with_reducible refine Kd.C_drewN ?_ _) | (with_reducible refine Kd.C_drew ?_) | exact HR117_1.out)) (ji26) p118 q118
                                                cases e118
                                                replace p118 := eq_true p118
                                                replace q118 := eq_true q118
                                                go_wp2
                                                repeat (go_quiet (fail); try go_wp2)
                                                go_roundg k4
                                                case measure => have := HK1.out; have := HK2.out; have := HJ11.out; have := HK4.out; omega
                                                case rel => exact ⟨(wrap64 (x9_4 + 1)), (by first | rfl | (simp; done) | (simp [*]; done)), H', ⟨by have := HK1.out; have := HK2.out; have := HJ11.out; have := HK4.out; omega⟩, ⟨by (with_reducible repeat (first | apply Kd.S_alloc | apply Kd.S_drewN | apply Kd.S_drew)); exact HO_4.out⟩, ⟨by repeat (first | (with_reducible first | exact HB.out | apply below_alloc | apply pw_below_drewN | apply below_drew1) | exact HB.out)⟩⟩
                                            · rw [if_neg c28] at H
                                              exact absurd H (by simp)
                                          · rw [if_neg c27] at H
                                            exact absurd H (by simp)
                                        · rw [if_neg c25] at H
                                          have c25b0 : decide (0 < x9_4) = false := decide_eq_false c25
                                          clear c25
                                          have H' := Aside0.mk H
                                          clear H
                                          have p110 : 0 ≤ (x8_2 : Int) := of_decide_eq_true (by first | (with_reducible assumption) | assumption)
                                          have q110 : x8_2 < (t103.length : Int) := of_decide_eq_true (by first | (with_reducible assumption) | assumption)
                                          obtain ⟨ad110, A110_1, c110_1, e110, hx110_0, hx110_1, hl110_1, hi110_1⟩ := at_T31 (Kd.S_reads' HO_4.out).2.2 x8_2 p110 q110
                                          cases e110
                                          obtain ⟨ce110, hce110, hMe110, hcc110⟩ := Kd.S_get HO_4.out z31 x8_2 p110 (by first | exact q110 | exact of_decide_eq_true (by first | (with_reducible assumption) | assumption) | (have e_ := (Kd.S_reads' HO_4.out).1; omega))
                                          obtain ⟨ve110_1, rfl, ge110_1⟩ := k31_openM hMe110
                                          have hv110_1 := hcc110 1 _ rfl
                                          rw [add_field _ _ 1 (by omega)] at hv110_1
                                          replace hv110_1 := Option.some.inj (hv110_1.symm.trans hx110_1)
                                          rw [hv110_1] at ge110_1
                                          have HL110_1 := Aside0.mk (show Kd.R k33 33 _ _ _ _ ((rd_T31 t103 x8_2).f1) from ge110_1)
                                          clear hv110_1 ge110_1
                                          clear hcc110 hce110
                                          have HR110_1 := Aside0.mk hi110_1
                                          have HC110_1 := Aside0.mk hl110_1
                                          clear hi110_1 hl110_1
                                          replace p110 := eq_true p110
                                          replace q110 := eq_true q110
                                          have p111 : 0 ≤ (x8_2 : Int) := of_decide_eq_true (by first | (with_reducible assumption) | assumption)
                                          have q111 : x8_2 < (t103.length : Int) := of_decide_eq_true (by first | (with_reducible assumption) | assumption)
                                          obtain ⟨ad111, A111_1, c111_1, e111, hx111_0, hx111_1, hl111_1, hi111_1⟩ := at_T31 (Kd.S_reads' HO_4.out).2.2 x8_2 p111 q111
                                          obtain rfl : ad110 = ad111 := (by injection e111)
                                          obtain ⟨ce111, hce111, hMe111, hcc111⟩ := Kd.S_get HO_4.out z31 x8_2 p111 (by first | exact q111 | exact of_decide_eq_true (by first | (with_reducible assumption) | assumption) | (have e_ := (Kd.S_reads' HO_4.out).1; omega))
                                          obtain ⟨ve111_1, rfl, ge111_1⟩ := k31_openM hMe111
                                          have hv111_1 := hcc111 1 _ rfl
                                          rw [add_field _ _ 1 (by omega)] at hv111_1
                                          replace hv111_1 := Option.some.inj (hv111_1.symm.trans hx111_1)
                                          rw [hv111_1] at ge111_1
                                          have HL111_1 := Aside0.mk (show Kd.R k33 33 _ _ _ _ ((rd_T31 t103 x8_2).f1) from ge111_1)
                                          clear hv111_1 ge111_1
                                          clear hcc111 hce111
                                          have HR111_1 := Aside0.mk hi111_1
                                          have HC111_1 := Aside0.mk hl111_1
                                          clear hi111_1 hl111_1
                                          replace p111 := eq_true p111
                                          replace q111 := eq_true q111
                                          have ea_ := Option.some.inj (hx110_1.symm.trans hx111_1)
                                          injection ea_ with ea_ en_ ec_
                                          subst ea_
                                          subst ec_
                                          clear en_
                                          have p112 : 0 ≤ (x9_4 : Int) := of_decide_eq_true (by first | (with_reducible assumption) | assumption)
                                          have q112 : x9_4 < (((rd_T31 t103 x8_2).f1).length : Int) := of_decide_eq_true (by first | (with_reducible assumption) | assumption)
                                          obtain ⟨ad112, e112, hx112_0, hx112_1⟩ := at_T33 (by repeat (first | (with_reducible exact HR111_1.out) | (with_reducible refine Kd.C_alloc ?_ _) | (with_reducible refine Kd.C_drewN ?_ _) | (with_reducible refine Kd.C_drew ?_) | exact HR111_1.out)) x9_4 p112 q112
                                          cases e112
                                          replace p112 := eq_true p112
                                          replace q112 := eq_true q112
                                          have p113 : 0 ≤ (x8_2 : Int) := of_decide_eq_true (by first | (with_reducible assumption) | assumption)
                                          have q113 : x8_2 < (t103.length : Int) := of_decide_eq_true (by first | (with_reducible assumption) | assumption)
                                          obtain ⟨ad113, A113_1, c113_1, e113, hx113_0, hx113_1, hl113_1, hi113_1⟩ := at_T31 (Kd.S_reads' HO_4.out).2.2 x8_2 p113 q113
                                          obtain rfl : ad110 = ad113 := (by injection e113)
                                          obtain ⟨ce113, hce113, hMe113, hcc113⟩ := Kd.S_get HO_4.out z31 x8_2 p113 (by first | exact q113 | exact of_decide_eq_true (by first | (with_reducible assumption) | assumption) | (have e_ := (Kd.S_reads' HO_4.out).1; omega))
                                          obtain ⟨ve113_1, rfl, ge113_1⟩ := k31_openM hMe113
                                          have hv113_1 := hcc113 1 _ rfl
                                          rw [add_field _ _ 1 (by omega)] at hv113_1
                                          replace hv113_1 := Option.some.inj (hv113_1.symm.trans hx113_1)
                                          rw [hv113_1] at ge113_1
                                          have HL113_1 := Aside0.mk (show Kd.R k33 33 _ _ _ _ ((rd_T31 t103 x8_2).f1) from ge113_1)
                                          clear hv113_1 ge113_1
                                          clear hcc113 hce113
                                          have HR113_1 := Aside0.mk hi113_1
                                          have HC113_1 := Aside0.mk hl113_1
                                          clear hi113_1 hl113_1
                                          replace p113 := eq_true p113
                                          replace q113 := eq_true q113
                                          have ea_ := Option.some.inj (hx110_1.symm.trans hx113_1)
                                          injection ea_ with ea_ en_ ec_
                                          subst ea_
                                          subst ec_
                                          clear en_
                                          have p114 : 0 ≤ (x9_4 : Int) := of_decide_eq_true (by first | (with_reducible assumption) | assumption)
                                          have q114 : x9_4 < (((rd_T31 t103 x8_2).f1).length : Int) := of_decide_eq_true (by first | (with_reducible assumption) | assumption)
                                          obtain ⟨ad114, e114, hx114_0, hx114_1⟩ := at_T33 (by repeat (first | (with_reducible exact HR113_1.out) | (with_reducible refine Kd.C_alloc ?_ _) | (with_reducible refine Kd.C_drewN ?_ _) | (with_reducible refine Kd.C_drew ?_) | exact HR113_1.out)) x9_4 p114 q114
                                          cases e114
                                          replace p114 := eq_true p114
                                          replace q114 := eq_true q114
                                          go_wp2
                                          repeat (go_quiet (fail); try go_wp2)
                                          go_roundg k4
                                          case measure => have := HK1.out; have := HK2.out; have := HJ11.out; have := HK4.out; omega
                                          case rel => exact ⟨(wrap64 (x9_4 + 1)), (by first | rfl | (simp; done) | (simp [*]; done)), H', ⟨by have := HK1.out; have := HK2.out; have := HJ11.out; have := HK4.out; omega⟩, ⟨by (with_reducible repeat (first | apply Kd.S_alloc | apply Kd.S_drewN | apply Kd.S_drew)); exact HO_4.out⟩, ⟨by repeat (first | (with_reducible first | exact HB.out | apply below_alloc | apply pw_below_drewN | apply below_drew1) | exact HB.out)⟩⟩
                                  · rw [if_neg c22] at H
                                    exact absurd H (by simp)
                                · rw [if_neg c21] at H
                                  have c21b0 : decide (x9_4 < (((rd_T31 t103 x8_2).f1).length : Int)) = false := decide_eq_false c21
                                  clear c21
                                  have H' := Aside0.mk H
                                  clear H
                                  have p110 : 0 ≤ (x8_2 : Int) := of_decide_eq_true (by first | (with_reducible assumption) | assumption)
                                  have q110 : x8_2 < (t103.length : Int) := of_decide_eq_true (by first | (with_reducible assumption) | assumption)
                                  obtain ⟨ad110, A110_1, c110_1, e110, hx110_0, hx110_1, hl110_1, hi110_1⟩ := at_T31 (Kd.S_reads' HO_4.out).2.2 x8_2 p110 q110
                                  cases e110
                                  obtain ⟨ce110, hce110, hMe110, hcc110⟩ := Kd.S_get HO_4.out z31 x8_2 p110 (by first | exact q110 | exact of_decide_eq_true (by first | (with_reducible assumption) | assumption) | (have e_ := (Kd.S_reads' HO_4.out).1; omega))
                                  obtain ⟨ve110_1, rfl, ge110_1⟩ := k31_openM hMe110
                                  have hv110_1 := hcc110 1 _ rfl
                                  rw [add_field _ _ 1 (by omega)] at hv110_1
                                  replace hv110_1 := Option.some.inj (hv110_1.symm.trans hx110_1)
                                  rw [hv110_1] at ge110_1
                                  have HL110_1 := Aside0.mk (show Kd.R k33 33 _ _ _ _ ((rd_T31 t103 x8_2).f1) from ge110_1)
                                  clear hv110_1 ge110_1
                                  clear hcc110 hce110
                                  have HR110_1 := Aside0.mk hi110_1
                                  have HC110_1 := Aside0.mk hl110_1
                                  clear hi110_1 hl110_1
                                  replace p110 := eq_true p110
                                  replace q110 := eq_true q110
                                  go_wp2
                                  repeat (go_quiet (fail); try go_wp2)
                                  go_loopg [10] k4 (fun kq v10 w' => ∃ (x10_5 : Int), v10 = .int .i64 x10_5 ∧ Aside0 (manteletlaw14_DawLeast.l3 kq l0 t101 t103 x6_1 x8_2 x10_5 = some r) ∧ Aside0 (kq ≤ k4) ∧ Aside0 (Kd.S k31 31 w' w.heap.size (fun _ => True) (.slice (some ad110) t103.length co13) t103) ∧ Aside0 (Kd.C k33 w' A110_1 ((rd_T31 t103 x8_2).f1).length ((rd_T31 t103 x8_2).f1)) ∧ Aside0 (Below w.heap.size w w'))
                                  case atStart => exact ⟨(0), (by first | rfl | (simp; done) | (simp [*]; done)), H', ⟨Nat.le_refl _⟩, ⟨by (with_reducible repeat (first | apply Kd.S_alloc | apply Kd.S_drewN | apply Kd.S_drew)); exact HO_4.out⟩, ⟨by repeat (first | (with_reducible exact HR110_1.out) | (with_reducible refine Kd.C_alloc ?_ _) | (with_reducible refine Kd.C_drewN ?_ _) | (with_reducible refine Kd.C_drew ?_) | exact HR110_1.out)⟩, ⟨by repeat (first | (with_reducible first | exact HB.out | apply below_alloc | apply pw_below_drewN | apply below_drew1) | exact HB.out)⟩⟩
                                  case round =>
                                    clear H'
                                    try clear c1
                                    try clear p1
                                    try clear q1
                                    try clear hx1
                                    try clear c2
                                    try clear p2
                                    try clear p6
                                    try clear q10
                                    try clear c11
                                    try clear p11
                                    try clear q11
                                    try clear hx11
                                    try clear q15
                                    try clear c19
                                    try clear c19b0
                                    try clear c20
                                    try clear c20b0
                                    try clear c21
                                    try clear c21b0
                                    try clear c22
                                    try clear c22b0
                                    try clear c23
                                    try clear c23b0
                                    try clear c24
                                    try clear c24b0
                                    try clear c25
                                    try clear c25b0
                                    try clear c27
                                    try clear c27b0
                                    try clear c28
                                    try clear c28b0
                                    try clear c29
                                    try clear c29b0
                                    try clear hx110_0
                                    try clear hx110_1
                                    try clear hx111_0
                                    try clear hx111_1
                                    try clear hx112_0
                                    try clear hx112_1
                                    try clear hx113_0
                                    try clear hx113_1
                                    try clear hx114_0
                                    try clear hx114_1
                                    try clear hx115_0
                                    try clear hx115_1
                                    try clear hx116_0
                                    try clear hx116_1
                                    try clear hx117_0
                                    try clear hx117_1
                                    try clear hx118_0
                                    try clear hx118_1
                                    try clear p110
                                    try clear p111
                                    try clear p112
                                    try clear p113
                                    try clear p114
                                    try clear p115
                                    try clear p116
                                    try clear p117
                                    try clear p118
                                    try clear p6
                                    try clear q1
                                    try clear q10
                                    try clear q107
                                    try clear q108
                                    try clear q109
                                    try clear q110
                                    try clear q111
                                    try clear q112
                                    try clear q113
                                    try clear q114
                                    try clear q115
                                    try clear q116
                                    try clear q117
                                    try clear q118
                                    try clear q15
                                    obtain ⟨x10_5, rfl, HA, HK5, HO_4, HR110_1, HB⟩ := hrel
                                    cases gk with
                                    | zero => exact absurd HA.out (by simp [manteletlaw14_DawLeast.l3])
                                    | succ k5 =>
                                      have H := HA.out
                                      clear HA
                                      simp only [manteletlaw14_DawLeast.l3] at H
                                      by_cases c30 : x10_5 < x8_2
                                      · rw [if_pos c30] at H
                                        have c30b0 : decide (x10_5 < x8_2) = true := decide_eq_true c30
                                        clear c30
                                        by_cases c31 : 0 ≤ x8_2
                                        · rw [if_pos c31] at H
                                          have c31b0 := eq_true c31
                                          have c31b1 : decide (0 ≤ x8_2) = true := decide_eq_true c31
                                          clear c31
                                          by_cases c32 : x8_2 ≤ (wrap64 (x8_2 + 1))
                                          · rw [if_pos c32] at H
                                            have c32b0 := eq_true c32
                                            have c32b1 : decide (x8_2 ≤ (wrap64 (x8_2 + 1))) = true := decide_eq_true c32
                                            by_cases c33 : (wrap64 (x8_2 + 1)) ≤ (t103.length : Int)
                                            · rw [if_pos c33] at H
                                              have c33b0 := eq_true c33
                                              have c33b1 : decide ((wrap64 (x8_2 + 1)) ≤ (t103.length : Int)) = true := decide_eq_true c33
                                              obtain ⟨y119, hy119⟩ : ∃ y_ : List (S31), y_ = ((t103.take ((wrap64 (x8_2 + 1)) : Int).toNat).drop (x8_2 : Int).toNat) := ⟨_, rfl⟩
                                              replace H : (if 0 ≤ x10_5 then (if x10_5 ≤ (wrap64 (x10_5 + 1)) then (if (wrap64 (x10_5 + 1)) ≤ (t103.length : Int) then ((manteletref14_Same.f k5 y119 ((t103.take ((wrap64 (x10_5 + 1)) : Int).toNat).drop (x10_5 : Int).toNat)).bind fun t127 => (if t127 = true then (some false) else (manteletlaw14_DawLeast.l3 k5 l0 t101 t103 x6_1 x8_2 (wrap64 (x10_5 + 1))))) else (none)) else (none)) else (none)) = some r := by first | (rw [hy119]; with_reducible exact H) | (have H2_ := (Option.bind_some _ _).symm.trans H; rw [hy119]; with_reducible exact H2_) | (have H2_ := (Option.bind_some _ _).symm.trans H; with_reducible exact H2_) | with_reducible exact H | (rw [hy119]; exact H) | exact H
                                              have Ny119 := Aside0.mk hy119
                                              clear hy119
                                              by_cases c34 : 0 ≤ x10_5
                                              · rw [if_pos c34] at H
                                                have c34b0 := eq_true c34
                                                have c34b1 : decide (0 ≤ x10_5) = true := decide_eq_true c34
                                                clear c34
                                                by_cases c35 : x10_5 ≤ (wrap64 (x10_5 + 1))
                                                · rw [if_pos c35] at H
                                                  have c35b0 := eq_true c35
                                                  have c35b1 : decide (x10_5 ≤ (wrap64 (x10_5 + 1))) = true := decide_eq_true c35
                                                  by_cases c36 : (wrap64 (x10_5 + 1)) ≤ (t103.length : Int)
                                                  · rw [if_pos c36] at H
                                                    have c36b0 := eq_true c36
                                                    have c36b1 : decide ((wrap64 (x10_5 + 1)) ≤ (t103.length : Int)) = true := decide_eq_true c36
                                                    obtain ⟨y123, hy123⟩ : ∃ y_ : List (S31), y_ = ((t103.take ((wrap64 (x10_5 + 1)) : Int).toNat).drop (x10_5 : Int).toNat) := ⟨_, rfl⟩
                                                    replace H : ((manteletref14_Same.f k5 y119 y123).bind fun t127 => (if t127 = true then (some false) else (manteletlaw14_DawLeast.l3 k5 l0 t101 t103 x6_1 x8_2 (wrap64 (x10_5 + 1))))) = some r := by first | (rw [hy123]; with_reducible exact H) | (have H2_ := (Option.bind_some _ _).symm.trans H; rw [hy123]; with_reducible exact H2_) | (have H2_ := (Option.bind_some _ _).symm.trans H; with_reducible exact H2_) | with_reducible exact H | (rw [hy123]; exact H) | exact H
                                                    have Ny123 := Aside0.mk hy123
                                                    clear hy123
                                                    replace H := Option.bind_eq_some_iff.mp H
                                                    obtain ⟨t127, A370, H⟩ := H
                                                    replace H : (if t127 = true then (some false) else (manteletlaw14_DawLeast.l3 k5 l0 t101 t103 x6_1 x8_2 (wrap64 (x10_5 + 1)))) = some r := H
                                                    have A37 := Aside0.mk A370
                                                    clear A370
                                                    by_cases c38 : t127 = true
                                                    · subst c38
                                                      have H1 : (some false) = some r := by rw [if_pos rfl] at H; exact H
                                                      clear H
                                                      have H := H1
                                                      clear H1
                                                      obtain rfl := Option.some.inj H
                                                      have q39 : ((wrap64 (x8_2 + 1)) : Int) ≤ ((t103.length : Int) : Int) := of_decide_eq_true (by first | (with_reducible assumption) | assumption)
                                                      obtain ⟨i039, hi039, _, hsz39, _⟩ := info_parts info31
                                                      have hroom39 : t103.length ≤ co13 := (Kd.S_reads' HO_4.out).2.1
                                                      have hC39 : Kd.C k31 _ (some ad110) t103.length t103 := (Kd.S_reads' HO_4.out).2.2
                                                      have ql39 : (x8_2 : Int) ≤ ((wrap64 (x8_2 + 1)) : Int) := of_decide_eq_true (by first | (with_reducible assumption) | assumption)
                                                      have q039 : (0 : Int) ≤ (x8_2 : Int) := of_decide_eq_true (by first | (with_reducible assumption) | assumption)
                                                      have hcut39 := cut_mid (P := Try.prog) 25 31 .i64 .i64 Try.underlying25 hi039 2 hsz39 (some ad110) t103.length co13 x8_2 (wrap64 (x8_2 + 1)) q039 ql39 q39 hroom39
                                                      have hr39 := Kd.C_mid (lo := (x8_2 : Int).toNat) (hi := ((wrap64 (x8_2 + 1)) : Int).toNat) (c := co13) hC39 (by omega) (by omega) hroom39
                                                      obtain ⟨A39, hA39⟩ : ∃ A1, A1 = (if co13 = (x8_2 : Int).toNat then (some ad110) else ((some ad110) : Option Addr).map (·.add ((x8_2 : Int).toNat * 2))) := ⟨_, rfl⟩
                                                      obtain ⟨c39, hc39⟩ : ∃ c1, c1 = co13 - (x8_2 : Int).toNat := ⟨_, rfl⟩
                                                      have hy39 : y119.length = ((wrap64 (x8_2 + 1)) : Int).toNat - (x8_2 : Int).toNat := (by rw [Ny119.out, List.length_drop, List.length_take] <;> omega)
                                                      rw [show ((t103).take ((wrap64 (x8_2 + 1)) : Int).toNat).drop (x8_2 : Int).toNat = y119 from Ny119.out.symm] at hr39
                                                      replace hr39 : Kd.C k31 _ A39 y119.length y119 := (by rw [hA39]; exact hr39)
                                                      rw [← hy39, ← hA39, ← hc39] at hcut39
                                                      have HR122 := Aside0.mk hr39
                                                      have HC122 := Aside0.mk (show y119.length ≤ c39 from by rw [hy39, hc39]; exact Nat.sub_le_sub_right (Nat.le_trans (by omega) hroom39) _)
                                                      clear hr39 hC39 hroom39 hi039 hsz39 hc39
                                                      have KY39 := Aside0.mk hy39
                                                      have KA39 := Aside0.mk hA39
                                                      clear hy39 hA39
                                                      have KL39 := Aside0.mk (show ((wrap64 (x8_2 + 1)) : Int).toNat ≤ t103.length from by omega)
                                                      have KM39 := Aside0.mk (show (x8_2 : Int).toNat ≤ ((wrap64 (x8_2 + 1)) : Int).toNat from by omega)
                                                      replace q39 := eq_true q39
                                                      have q40 : ((wrap64 (x10_5 + 1)) : Int) ≤ ((t103.length : Int) : Int) := of_decide_eq_true (by first | (with_reducible assumption) | assumption)
                                                      obtain ⟨i040, hi040, _, hsz40, _⟩ := info_parts info31
                                                      have hroom40 : t103.length ≤ co13 := (Kd.S_reads' HO_4.out).2.1
                                                      have hC40 : Kd.C k31 _ (some ad110) t103.length t103 := (Kd.S_reads' HO_4.out).2.2
                                                      have ql40 : (x10_5 : Int) ≤ ((wrap64 (x10_5 + 1)) : Int) := of_decide_eq_true (by first | (with_reducible assumption) | assumption)
                                                      have q040 : (0 : Int) ≤ (x10_5 : Int) := of_decide_eq_true (by first | (with_reducible assumption) | assumption)
                                                      have hcut40 := cut_mid (P := Try.prog) 25 31 .i64 .i64 Try.underlying25 hi040 2 hsz40 (some ad110) t103.length co13 x10_5 (wrap64 (x10_5 + 1)) q040 ql40 q40 hroom40
                                                      have hr40 := Kd.C_mid (lo := (x10_5 : Int).toNat) (hi := ((wrap64 (x10_5 + 1)) : Int).toNat) (c := co13) hC40 (by omega) (by omega) hroom40
                                                      obtain ⟨A40, hA40⟩ : ∃ A1, A1 = (if co13 = (x10_5 : Int).toNat then (some ad110) else ((some ad110) : Option Addr).map (·.add ((x10_5 : Int).toNat * 2))) := ⟨_, rfl⟩
                                                      obtain ⟨c40, hc40⟩ : ∃ c1, c1 = co13 - (x10_5 : Int).toNat := ⟨_, rfl⟩
                                                      have hy40 : y123.length = ((wrap64 (x10_5 + 1)) : Int).toNat - (x10_5 : Int).toNat := (by rw [Ny123.out, List.length_drop, List.length_take] <;> omega)
                                                      rw [show ((t103).take ((wrap64 (x10_5 + 1)) : Int).toNat).drop (x10_5 : Int).toNat = y123 from Ny123.out.symm] at hr40
                                                      replace hr40 : Kd.C k31 _ A40 y123.length y123 := (by rw [hA40]; exact hr40)
                                                      rw [← hy40, ← hA40, ← hc40] at hcut40
                                                      have HR126 := Aside0.mk hr40
                                                      have HC126 := Aside0.mk (show y123.length ≤ c40 from by rw [hy40, hc40]; exact Nat.sub_le_sub_right (Nat.le_trans (by omega) hroom40) _)
                                                      clear hr40 hC40 hroom40 hi040 hsz40 hc40
                                                      have KY40 := Aside0.mk hy40
                                                      have KA40 := Aside0.mk hA40
                                                      clear hy40 hA40
                                                      have KL40 := Aside0.mk (show ((wrap64 (x10_5 + 1)) : Int).toNat ≤ t103.length from by omega)
                                                      have KM40 := Aside0.mk (show (x10_5 : Int).toNat ≤ ((wrap64 (x10_5 + 1)) : Int).toNat from by omega)
                                                      replace q40 := eq_true q40
                                                      go_wp2_with (first | (go_at_call 16; (with_reducible refine (manteletref14_Same.calls k5 _ _ y119 _ _ y123 true _ ?side1 ?side2 ?side3 ?side4 A37.out).mono ?_); (case side1 => repeat (first | exact (by repeat (first | (with_reducible exact HR122.out) | (with_reducible refine Kd.C_alloc ?_ _) | (with_reducible refine Kd.C_drewN ?_ _) | (with_reducible refine Kd.C_drew ?_) | exact HR122.out)) | (with_reducible refine Kd.C_alloc ?_ _) | (with_reducible refine Kd.C_drewN ?_ _) | (with_reducible refine Kd.C_drew ?_))); (case side2 => exact HC122.out); (case side3 => repeat (first | exact (by repeat (first | (with_reducible exact HR126.out) | (with_reducible refine Kd.C_alloc ?_ _) | (with_reducible refine Kd.C_drewN ?_ _) | (with_reducible refine Kd.C_drew ?_) | exact HR126.out)) | (with_reducible refine Kd.C_alloc ?_ _) | (with_reducible refine Kd.C_drewN ?_ _) | (with_reducible refine Kd.C_drew ?_))); (case side4 => exact HC126.out); rintro e w' ⟨rfl, ⟨nd, rfl⟩⟩; (try first | exact ⟨rfl, _, World.drewN_drewN _ _ _⟩ | exact ⟨rfl, _, Eq.trans (World.drewN_drewN _ _ _) (congrArg (World.drewN _) (Nat.add_assoc _ _ _))⟩)))
                                                      repeat (go_quiet (first | (go_at_call 16; (with_reducible refine (manteletref14_Same.calls k5 _ _ y119 _ _ y123 true _ ?side1 ?side2 ?side3 ?side4 A37.out).mono ?_); (case side1 => repeat (first | exact (by repeat (first | (with_reducible exact HR122.out) | (with_reducible refine Kd.C_alloc ?_ _) | (with_reducible refine Kd.C_drewN ?_ _) | (with_reducible refine Kd.C_drew ?_) | exact HR122.out)) | (with_reducible refine Kd.C_alloc ?_ _) | (with_reducible refine Kd.C_drewN ?_ _) | (with_reducible refine Kd.C_drew ?_))); (case side2 => exact HC122.out); (case side3 => repeat (first | exact (by repeat (first | (with_reducible exact HR126.out) | (with_reducible refine Kd.C_alloc ?_ _) | (with_reducible refine Kd.C_drewN ?_ _) | (with_reducible refine Kd.C_drew ?_) | exact HR126.out)) | (with_reducible refine Kd.C_alloc ?_ _) | (with_reducible refine Kd.C_drewN ?_ _) | (with_reducible refine Kd.C_drew ?_))); (case side4 => exact HC126.out); rintro e w' ⟨rfl, ⟨nd, rfl⟩⟩; (try first | exact ⟨rfl, _, World.drewN_drewN _ _ _⟩ | exact ⟨rfl, _, Eq.trans (World.drewN_drewN _ _ _) (congrArg (World.drewN _) (Nat.add_assoc _ _ _))⟩))); try go_wp2_with (first | (go_at_call 16; (with_reducible refine (manteletref14_Same.calls k5 _ _ y119 _ _ y123 true _ ?side1 ?side2 ?side3 ?side4 A37.out).mono ?_); (case side1 => repeat (first | exact (by repeat (first | (with_reducible exact HR122.out) | (with_reducible refine Kd.C_alloc ?_ _) | (with_reducible refine Kd.C_drewN ?_ _) | (with_reducible refine Kd.C_drew ?_) | exact HR122.out)) | (with_reducible refine Kd.C_alloc ?_ _) | (with_reducible refine Kd.C_drewN ?_ _) | (with_reducible refine Kd.C_drew ?_))); (case side2 => exact HC122.out); (case side3 => repeat (first | exact (by repeat (first | (with_reducible exact HR126.out) | (with_reducible refine Kd.C_alloc ?_ _) | (with_reducible refine Kd.C_drewN ?_ _) | (with_reducible refine Kd.C_drew ?_) | exact HR126.out)) | (with_reducible refine Kd.C_alloc ?_ _) | (with_reducible refine Kd.C_drewN ?_ _) | (with_reducible refine Kd.C_drew ?_))); (case side4 => exact HC126.out); rintro e w' ⟨rfl, ⟨nd, rfl⟩⟩; (try first | exact ⟨rfl, _, World.drewN_drewN _ _ _⟩ | exact ⟨rfl, _, Eq.trans (World.drewN_drewN _ _ _) (congrArg (World.drewN _) (Nat.add_assoc _ _ _))⟩))))
                                                      go_ret
                                                      exact ⟨by first | rfl | (simp [errW_none, errW_some] <;> rfl) | (simp [*, errW_none, errW_some] <;> rfl), by repeat (first | (with_reducible first | exact HB.out | apply below_alloc | apply pw_below_drewN | apply below_drew1) | exact HB.out)⟩
                                                    · replace c38 := Bool.eq_false_iff.mpr c38
                                                      subst c38
                                                      have H1 : (manteletlaw14_DawLeast.l3 k5 l0 t101 t103 x6_1 x8_2 (wrap64 (x10_5 + 1))) = some r := by rw [if_neg (show ¬ (false = true) by decide)] at H; exact H
                                                      clear H
                                                      have H := H1
                                                      clear H1
                                                      have H' := Aside0.mk H
                                                      clear H
                                                      have q41 : ((wrap64 (x8_2 + 1)) : Int) ≤ ((t103.length : Int) : Int) := of_decide_eq_true (by first | (with_reducible assumption) | assumption)
                                                      obtain ⟨i041, hi041, _, hsz41, _⟩ := info_parts info31
                                                      have hroom41 : t103.length ≤ co13 := (Kd.S_reads' HO_4.out).2.1
                                                      have hC41 : Kd.C k31 _ (some ad110) t103.length t103 := (Kd.S_reads' HO_4.out).2.2
                                                      have ql41 : (x8_2 : Int) ≤ ((wrap64 (x8_2 + 1)) : Int) := of_decide_eq_true (by first | (with_reducible assumption) | assumption)
                                                      have q041 : (0 : Int) ≤ (x8_2 : Int) := of_decide_eq_true (by first | (with_reducible assumption) | assumption)
                                                      have hcut41 := cut_mid (P := Try.prog) 25 31 .i64 .i64 Try.underlying25 hi041 2 hsz41 (some ad110) t103.length co13 x8_2 (wrap64 (x8_2 + 1)) q041 ql41 q41 hroom41
                                                      have hr41 := Kd.C_mid (lo := (x8_2 : Int).toNat) (hi := ((wrap64 (x8_2 + 1)) : Int).toNat) (c := co13) hC41 (by omega) (by omega) hroom41
                                                      obtain ⟨A41, hA41⟩ : ∃ A1, A1 = (if co13 = (x8_2 : Int).toNat then (some ad110) else ((some ad110) : Option Addr).map (·.add ((x8_2 : Int).toNat * 2))) := ⟨_, rfl⟩
                                                      obtain ⟨c41, hc41⟩ : ∃ c1, c1 = co13 - (x8_2 : Int).toNat := ⟨_, rfl⟩
                                                      have hy41 : y119.length = ((wrap64 (x8_2 + 1)) : Int).toNat - (x8_2 : Int).toNat := (by rw [Ny119.out, List.length_drop, List.length_take] <;> omega)
                                                      rw [show ((t103).take ((wrap64 (x8_2 + 1)) : Int).toNat).drop (x8_2 : Int).toNat = y119 from Ny119.out.symm] at hr41
                                                      replace hr41 : Kd.C k31 _ A41 y119.length y119 := (by rw [hA41]; exact hr41)
                                                      rw [← hy41, ← hA41, ← hc41] at hcut41
                                                      have HR122 := Aside0.mk hr41
                                                      have HC122 := Aside0.mk (show y119.length ≤ c41 from by rw [hy41, hc41]; exact Nat.sub_le_sub_right (Nat.le_trans (by omega) hroom41) _)
                                                      clear hr41 hC41 hroom41 hi041 hsz41 hc41
                                                      have KY41 := Aside0.mk hy41
                                                      have KA41 := Aside0.mk hA41
                                                      clear hy41 hA41
                                                      have KL41 := Aside0.mk (show ((wrap64 (x8_2 + 1)) : Int).toNat ≤ t103.length from by omega)
                                                      have KM41 := Aside0.mk (show (x8_2 : Int).toNat ≤ ((wrap64 (x8_2 + 1)) : Int).toNat from by omega)
                                                      replace q41 := eq_true q41
                                                      have q42 : ((wrap64 (x10_5 + 1)) : Int) ≤ ((t103.length : Int) : Int) := of_decide_eq_true (by first | (with_reducible assumption) | assumption)
                                                      obtain ⟨i042, hi042, _, hsz42, _⟩ := info_parts info31
                                                      have hroom42 : t103.length ≤ co13 := (Kd.S_reads' HO_4.out).2.1
                                                      have hC42 : Kd.C k31 _ (some ad110) t103.length t103 := (Kd.S_reads' HO_4.out).2.2
                                                      have ql42 : (x10_5 : Int) ≤ ((wrap64 (x10_5 + 1)) : Int) := of_decide_eq_true (by first | (with_reducible assumption) | assumption)
                                                      have q042 : (0 : Int) ≤ (x10_5 : Int) := of_decide_eq_true (by first | (with_reducible assumption) | assumption)
                                                      have hcut42 := cut_mid (P := Try.prog) 25 31 .i64 .i64 Try.underlying25 hi042 2 hsz42 (some ad110) t103.length co13 x10_5 (wrap64 (x10_5 + 1)) q042 ql42 q42 hroom42
                                                      have hr42 := Kd.C_mid (lo := (x10_5 : Int).toNat) (hi := ((wrap64 (x10_5 + 1)) : Int).toNat) (c := co13) hC42 (by omega) (by omega) hroom42
                                                      obtain ⟨A42, hA42⟩ : ∃ A1, A1 = (if co13 = (x10_5 : Int).toNat then (some ad110) else ((some ad110) : Option Addr).map (·.add ((x10_5 : Int).toNat * 2))) := ⟨_, rfl⟩
                                                      obtain ⟨c42, hc42⟩ : ∃ c1, c1 = co13 - (x10_5 : Int).toNat := ⟨_, rfl⟩
                                                      have hy42 : y123.length = ((wrap64 (x10_5 + 1)) : Int).toNat - (x10_5 : Int).toNat := (by rw [Ny123.out, List.length_drop, List.length_take] <;> omega)
                                                      rw [show ((t103).take ((wrap64 (x10_5 + 1)) : Int).toNat).drop (x10_5 : Int).toNat = y123 from Ny123.out.symm] at hr42
                                                      replace hr42 : Kd.C k31 _ A42 y123.length y123 := (by rw [hA42]; exact hr42)
                                                      rw [← hy42, ← hA42, ← hc42] at hcut42
                                                      have HR126 := Aside0.mk hr42
                                                      have HC126 := Aside0.mk (show y123.length ≤ c42 from by rw [hy42, hc42]; exact Nat.sub_le_sub_right (Nat.le_trans (by omega) hroom42) _)
                                                      clear hr42 hC42 hroom42 hi042 hsz42 hc42
                                                      have KY42 := Aside0.mk hy42
                                                      have KA42 := Aside0.mk hA42
                                                      clear hy42 hA42
                                                      have KL42 := Aside0.mk (show ((wrap64 (x10_5 + 1)) : Int).toNat ≤ t103.length from by omega)
                                                      have KM42 := Aside0.mk (show (x10_5 : Int).toNat ≤ ((wrap64 (x10_5 + 1)) : Int).toNat from by omega)
                                                      replace q42 := eq_true q42
                                                      go_wp2_with (first | (go_at_call 16; (with_reducible refine (manteletref14_Same.calls k5 _ _ y119 _ _ y123 false _ ?side1 ?side2 ?side3 ?side4 A37.out).mono ?_); (case side1 => repeat (first | exact (by repeat (first | (with_reducible exact HR122.out) | (with_reducible refine Kd.C_alloc ?_ _) | (with_reducible refine Kd.C_drewN ?_ _) | (with_reducible refine Kd.C_drew ?_) | exact HR122.out)) | (with_reducible refine Kd.C_alloc ?_ _) | (with_reducible refine Kd.C_drewN ?_ _) | (with_reducible refine Kd.C_drew ?_))); (case side2 => exact HC122.out); (case side3 => repeat (first | exact (by repeat (first | (with_reducible exact HR126.out) | (with_reducible refine Kd.C_alloc ?_ _) | (with_reducible refine Kd.C_drewN ?_ _) | (with_reducible refine Kd.C_drew ?_) | exact HR126.out)) | (with_reducible refine Kd.C_alloc ?_ _) | (with_reducible refine Kd.C_drewN ?_ _) | (with_reducible refine Kd.C_drew ?_))); (case side4 => exact HC126.out); rintro e w' ⟨rfl, ⟨nd, rfl⟩⟩; (try first | exact ⟨rfl, _, World.drewN_drewN _ _ _⟩ | exact ⟨rfl, _, Eq.trans (World.drewN_drewN _ _ _) (congrArg (World.drewN _) (Nat.add_assoc _ _ _))⟩)))
                                                      repeat (go_quiet (first | (go_at_call 16; (with_reducible refine (manteletref14_Same.calls k5 _ _ y119 _ _ y123 false _ ?side1 ?side2 ?side3 ?side4 A37.out).mono ?_); (case side1 => repeat (first | exact (by repeat (first | (with_reducible exact HR122.out) | (with_reducible refine Kd.C_alloc ?_ _) | (with_reducible refine Kd.C_drewN ?_ _) | (with_reducible refine Kd.C_drew ?_) | exact HR122.out)) | (with_reducible refine Kd.C_alloc ?_ _) | (with_reducible refine Kd.C_drewN ?_ _) | (with_reducible refine Kd.C_drew ?_))); (case side2 => exact HC122.out); (case side3 => repeat (first | exact (by repeat (first | (with_reducible exact HR126.out) | (with_reducible refine Kd.C_alloc ?_ _) | (with_reducible refine Kd.C_drewN ?_ _) | (with_reducible refine Kd.C_drew ?_) | exact HR126.out)) | (with_reducible refine Kd.C_alloc ?_ _) | (with_reducible refine Kd.C_drewN ?_ _) | (with_reducible refine Kd.C_drew ?_))); (case side4 => exact HC126.out); rintro e w' ⟨rfl, ⟨nd, rfl⟩⟩; (try first | exact ⟨rfl, _, World.drewN_drewN _ _ _⟩ | exact ⟨rfl, _, Eq.trans (World.drewN_drewN _ _ _) (congrArg (World.drewN _) (Nat.add_assoc _ _ _))⟩))); try go_wp2_with (first | (go_at_call 16; (with_reducible refine (manteletref14_Same.calls k5 _ _ y119 _ _ y123 false _ ?side1 ?side2 ?side3 ?side4 A37.out).mono ?_); (case side1 => repeat (first | exact (by repeat (first | (with_reducible exact HR122.out) | (with_reducible refine Kd.C_alloc ?_ _) | (with_reducible refine Kd.C_drewN ?_ _) | (with_reducible refine Kd.C_drew ?_) | exact HR122.out)) | (with_reducible refine Kd.C_alloc ?_ _) | (with_reducible refine Kd.C_drewN ?_ _) | (with_reducible refine Kd.C_drew ?_))); (case side2 => exact HC122.out); (case side3 => repeat (first | exact (by repeat (first | (with_reducible exact HR126.out) | (with_reducible refine Kd.C_alloc ?_ _) | (with_reducible refine Kd.C_drewN ?_ _) | (with_reducible refine Kd.C_drew ?_) | exact HR126.out)) | (with_reducible refine Kd.C_alloc ?_ _) | (with_reducible refine Kd.C_drewN ?_ _) | (with_reducible refine Kd.C_drew ?_))); (case side4 => exact HC126.out); rintro e w' ⟨rfl, ⟨nd, rfl⟩⟩; (try first | exact ⟨rfl, _, World.drewN_drewN _ _ _⟩ | exact ⟨rfl, _, Eq.trans (World.drewN_drewN _ _ _) (congrArg (World.drewN _) (Nat.add_assoc _ _ _))⟩))))
                                                      go_roundg k5
                                                      case measure => have := HK1.out; have := HK2.out; have := HJ11.out; have := HK4.out; have := HK5.out; omega
                                                      case rel => exact ⟨(wrap64 (x10_5 + 1)), (by first | rfl | (simp; done) | (simp [*]; done)), H', ⟨by have := HK1.out; have := HK2.out; have := HJ11.out; have := HK4.out; have := HK5.out; omega⟩, ⟨by (with_reducible repeat (first | apply Kd.S_alloc | apply Kd.S_drewN | apply Kd.S_drew)); exact HO_4.out⟩, ⟨by repeat (first | (with_reducible exact HR110_1.out) | (with_reducible refine Kd.C_alloc ?_ _) | (with_reducible refine Kd.C_drewN ?_ _) | (with_reducible refine Kd.C_drew ?_) | exact HR110_1.out)⟩, ⟨by repeat (first | (with_reducible first | exact HB.out | apply below_alloc | apply pw_below_drewN | apply below_drew1) | exact HB.out)⟩⟩
                                                  · rw [if_neg c36] at H
                                                    exact absurd H (by simp)
                                                · rw [if_neg c35] at H
                                                  exact absurd H (by simp)
                                              · rw [if_neg c34] at H
                                                exact absurd H (by simp)
                                            · rw [if_neg c33] at H
                                              exact absurd H (by simp)
                                          · rw [if_neg c32] at H
                                            exact absurd H (by simp)
                                        · rw [if_neg c31] at H
                                          exact absurd H (by simp)
                                      · rw [if_neg c30] at H
                                        have c30b0 : decide (x10_5 < x8_2) = false := decide_eq_false c30
                                        clear c30
                                        have H' := Aside0.mk H
                                        clear H
                                        go_wp2
                                        repeat (go_quiet (fail); try go_wp2)
                                        go_roundg k5
                                        case measure => have := HK1.out; have := HK2.out; have := HJ11.out; have := HK4.out; have := HK5.out; omega
                                        case rel => exact ⟨(wrap64 (x8_2 + 1)), (by first | rfl | (simp; done) | (simp [*]; done)), H', ⟨by have := HK1.out; have := HK2.out; have := HJ11.out; have := HK4.out; have := HK5.out; omega⟩, ⟨by (with_reducible repeat (first | apply Kd.S_alloc | apply Kd.S_drewN | apply Kd.S_drew)); exact HO_4.out⟩, ⟨by repeat (first | (with_reducible first | exact HB.out | apply below_alloc | apply pw_below_drewN | apply below_drew1) | exact HB.out)⟩⟩
                              · rw [if_neg c20] at H
                                exact absurd H (by simp)
                            · rw [if_neg c19] at H
                              exact absurd H (by simp)
                · rw [if_neg c11] at H
                  have c11b0 : decide (x8_2 < (t103.length : Int)) = false := decide_eq_false c11
                  clear c11
                  by_cases c43 : t101 = true
                  · subst c43
                    have H1 : (if (t103.length : Int) ≥ 1 then (some (decide ((t103.length : Int) ≤ x6_1))) else (some false)) = some r := by rw [if_pos rfl] at H; exact H
                    clear H
                    have H := H1
                    clear H1
                    by_cases c44 : (t103.length : Int) ≥ 1
                    · rw [if_pos c44] at H
                      have c44b0 : decide (1 ≤ (t103.length : Int)) = true := decide_eq_true c44
                      have c44b1 : decide (1 ≤ t103.length) = true := decide_eq_true (by omega)
                      clear c44
                      obtain rfl := Option.some.inj H
                      obtain ⟨Ao45, co45, eo45⟩ := Kd.S_slice HO_4.out
                      subst eo45
                      go_wp2
                      repeat (go_quiet (fail); try go_wp2)
                      go_ret
                      exact ⟨by first | rfl | (simp [errW_none, errW_some] <;> rfl) | (simp [*, errW_none, errW_some] <;> rfl), by repeat (first | (with_reducible first | exact HB.out | apply below_alloc | apply pw_below_drewN | apply below_drew1) | exact HB.out)⟩
                    · rw [if_neg c44] at H
                      have c44b0 : decide (1 ≤ (t103.length : Int)) = false := decide_eq_false c44
                      have c44b1 : decide (1 ≤ t103.length) = false := decide_eq_false (by omega)
                      clear c44
                      obtain rfl := Option.some.inj H
                      obtain ⟨Ao46, co46, eo46⟩ := Kd.S_slice HO_4.out
                      subst eo46
                      go_wp2
                      repeat (go_quiet (fail); try go_wp2)
                      go_ret
                      exact ⟨by first | rfl | (simp [errW_none, errW_some] <;> rfl) | (simp [*, errW_none, errW_some] <;> rfl), by repeat (first | (with_reducible first | exact HB.out | apply below_alloc | apply pw_below_drewN | apply below_drew1) | exact HB.out)⟩
                  · replace c43 := Bool.eq_false_iff.mpr c43
                    subst c43
                    have H1 : (some false) = some r := by rw [if_neg (show ¬ (false = true) by decide)] at H; exact H
                    clear H
                    have H := H1
                    clear H1
                    obtain rfl := Option.some.inj H
                    obtain ⟨Ao47, co47, eo47⟩ := Kd.S_slice HO_4.out
                    subst eo47
                    go_wp2
                    repeat (go_quiet (fail); try go_wp2)
                    go_ret
                    exact ⟨by first | rfl | (simp [errW_none, errW_some] <;> rfl) | (simp [*, errW_none, errW_some] <;> rfl), by repeat (first | (with_reducible first | exact HB.out | apply below_alloc | apply pw_below_drewN | apply below_drew1) | exact HB.out)⟩
    · rw [if_neg c6] at H
      have c6b0 : (t104 == 0) = false := beq_eq_false_iff_ne.mpr c6
      have c6b1 : (t104 != 0) = true := bne_iff_ne.mpr c6
      obtain rfl := Option.some.inj H
      go_enter Try.func3, Try.ntmps3
      go_wp2_with (first | (go_at_call 13; (with_reducible refine (manteletlaw14_shown.calls k  t101 _ A2.out).mono ?_); rintro e w48 ⟨rfl, hb⟩; have n0_ := Aside0.mk (below_step (by repeat (first | (with_reducible first | exact HB.out | apply below_alloc | apply pw_below_drewN | apply below_drew1) | exact HB.out)) hb); clear HB; have HB := n0_; clear n0_; (try clear hb); (try clear hb2); (try clear hk); (try clear hi)) | (go_at_call 14; (with_reducible refine (manteletlaw14_few.calls k _ _ l0 true _ ?side1 ?side2 A3.out).mono ?_); (case side1 => repeat (first | exact (Kd.C_below HR0.out HB.out) | (with_reducible refine Kd.C_alloc ?_ _) | (with_reducible refine Kd.C_drewN ?_ _) | (with_reducible refine Kd.C_drew ?_))); (case side2 => exact HC0.out); rintro e w' ⟨rfl, ⟨nd, rfl⟩⟩; (try first | exact ⟨rfl, _, World.drewN_drewN _ _ _⟩ | exact ⟨rfl, _, Eq.trans (World.drewN_drewN _ _ _) (congrArg (World.drewN _) (Nat.add_assoc _ _ _))⟩)) | (go_at_call 15; (with_reducible refine (daw_Build.calls _ _ l0 t103 t104 _ ?side1 ?side2 A5.out).mono ?_); (case side1 => repeat (first | exact (Kd.C_below HR0.out (by repeat (first | (with_reducible first | exact HB.out | apply below_alloc | apply pw_below_drewN | apply below_drew1) | exact HB.out))) | (with_reducible refine Kd.C_alloc ?_ _) | (with_reducible refine Kd.C_drewN ?_ _) | (with_reducible refine Kd.C_drew ?_))); (case side2 => exact HC0.out); rintro e w49 ⟨v105, rfl, ho0, hb⟩; have n0_ := Aside0.mk (Kd.S_lower ho0 (below_size (by repeat (first | (with_reducible first | exact HB.out | apply below_alloc | apply pw_below_drewN | apply below_drew1) | exact HB.out)))); have n1_ := Aside0.mk (below_step (by repeat (first | (with_reducible first | exact HB.out | apply below_alloc | apply pw_below_drewN | apply below_drew1) | exact HB.out)) hb); clear HB; have HO106 := n0_; have HB := n1_; clear n0_ n1_; (try clear hb); (try clear hb2); (try clear hk); (try clear hi); (try clear ho0)))
      repeat (go_quiet (first | (go_at_call 13; (with_reducible refine (manteletlaw14_shown.calls k  t101 _ A2.out).mono ?_); rintro e w48 ⟨rfl, hb⟩; have n0_ := Aside0.mk (below_step (by repeat (first | (with_reducible first | exact HB.out | apply below_alloc | apply pw_below_drewN | apply below_drew1) | exact HB.out)) hb); clear HB; have HB := n0_; clear n0_; (try clear hb); (try clear hb2); (try clear hk); (try clear hi)) | (go_at_call 14; (with_reducible refine (manteletlaw14_few.calls k _ _ l0 true _ ?side1 ?side2 A3.out).mono ?_); (case side1 => repeat (first | exact (Kd.C_below HR0.out HB.out) | (with_reducible refine Kd.C_alloc ?_ _) | (with_reducible refine Kd.C_drewN ?_ _) | (with_reducible refine Kd.C_drew ?_))); (case side2 => exact HC0.out); rintro e w' ⟨rfl, ⟨nd, rfl⟩⟩; (try first | exact ⟨rfl, _, World.drewN_drewN _ _ _⟩ | exact ⟨rfl, _, Eq.trans (World.drewN_drewN _ _ _) (congrArg (World.drewN _) (Nat.add_assoc _ _ _))⟩)) | (go_at_call 15; (with_reducible refine (daw_Build.calls _ _ l0 t103 t104 _ ?side1 ?side2 A5.out).mono ?_); (case side1 => repeat (first | exact (Kd.C_below HR0.out (by repeat (first | (with_reducible first | exact HB.out | apply below_alloc | apply pw_below_drewN | apply below_drew1) | exact HB.out))) | (with_reducible refine Kd.C_alloc ?_ _) | (with_reducible refine Kd.C_drewN ?_ _) | (with_reducible refine Kd.C_drew ?_))); (case side2 => exact HC0.out); rintro e w49 ⟨v105, rfl, ho0, hb⟩; have n0_ := Aside0.mk (Kd.S_lower ho0 (below_size (by repeat (first | (with_reducible first | exact HB.out | apply below_alloc | apply pw_below_drewN | apply below_drew1) | exact HB.out)))); have n1_ := Aside0.mk (below_step (by repeat (first | (with_reducible first | exact HB.out | apply below_alloc | apply pw_below_drewN | apply below_drew1) | exact HB.out)) hb); clear HB; have HO106 := n0_; have HB := n1_; clear n0_ n1_; (try clear hb); (try clear hb2); (try clear hk); (try clear hi); (try clear ho0))); try go_wp2_with (first | (go_at_call 13; (with_reducible refine (manteletlaw14_shown.calls k  t101 _ A2.out).mono ?_); rintro e w48 ⟨rfl, hb⟩; have n0_ := Aside0.mk (below_step (by repeat (first | (with_reducible first | exact HB.out | apply below_alloc | apply pw_below_drewN | apply below_drew1) | exact HB.out)) hb); clear HB; have HB := n0_; clear n0_; (try clear hb); (try clear hb2); (try clear hk); (try clear hi)) | (go_at_call 14; (with_reducible refine (manteletlaw14_few.calls k _ _ l0 true _ ?side1 ?side2 A3.out).mono ?_); (case side1 => repeat (first | exact (Kd.C_below HR0.out HB.out) | (with_reducible refine Kd.C_alloc ?_ _) | (with_reducible refine Kd.C_drewN ?_ _) | (with_reducible refine Kd.C_drew ?_))); (case side2 => exact HC0.out); rintro e w' ⟨rfl, ⟨nd, rfl⟩⟩; (try first | exact ⟨rfl, _, World.drewN_drewN _ _ _⟩ | exact ⟨rfl, _, Eq.trans (World.drewN_drewN _ _ _) (congrArg (World.drewN _) (Nat.add_assoc _ _ _))⟩)) | (go_at_call 15; (with_reducible refine (daw_Build.calls _ _ l0 t103 t104 _ ?side1 ?side2 A5.out).mono ?_); (case side1 => repeat (first | exact (Kd.C_below HR0.out (by repeat (first | (with_reducible first | exact HB.out | apply below_alloc | apply pw_below_drewN | apply below_drew1) | exact HB.out))) | (with_reducible refine Kd.C_alloc ?_ _) | (with_reducible refine Kd.C_drewN ?_ _) | (with_reducible refine Kd.C_drew ?_))); (case side2 => exact HC0.out); rintro e w49 ⟨v105, rfl, ho0, hb⟩; have n0_ := Aside0.mk (Kd.S_lower ho0 (below_size (by repeat (first | (with_reducible first | exact HB.out | apply below_alloc | apply pw_below_drewN | apply below_drew1) | exact HB.out)))); have n1_ := Aside0.mk (below_step (by repeat (first | (with_reducible first | exact HB.out | apply below_alloc | apply pw_below_drewN | apply below_drew1) | exact HB.out)) hb); clear HB; have HO106 := n0_; have HB := n1_; clear n0_ n1_; (try clear hb); (try clear hb2); (try clear hk); (try clear hi); (try clear ho0))))
      go_ret
      exact ⟨by first | rfl | (simp [errW_none, errW_some] <;> rfl) | (simp [*, errW_none, errW_some] <;> rfl), by repeat (first | (with_reducible first | exact HB.out | apply below_alloc | apply pw_below_drewN | apply below_drew1) | exact HB.out)⟩
  · replace c4 := Bool.eq_false_iff.mpr c4
    subst c4
    have H1 : (some t101) = some r := by rw [if_neg (show ¬ (false = true) by decide)] at H; exact H
    clear H
    have H := H1
    clear H1
    obtain rfl := Option.some.inj H
    go_enter Try.func3, Try.ntmps3
    go_wp2_with (first | (go_at_call 13; (with_reducible refine (manteletlaw14_shown.calls k  t101 _ A2.out).mono ?_); rintro e w50 ⟨rfl, hb⟩; have n0_ := Aside0.mk (below_step (by repeat (first | (with_reducible first | exact HB.out | apply below_alloc | apply pw_below_drewN | apply below_drew1) | exact HB.out)) hb); clear HB; have HB := n0_; clear n0_; (try clear hb); (try clear hb2); (try clear hk); (try clear hi)) | (go_at_call 14; (with_reducible refine (manteletlaw14_few.calls k _ _ l0 false _ ?side1 ?side2 A3.out).mono ?_); (case side1 => repeat (first | exact (Kd.C_below HR0.out HB.out) | (with_reducible refine Kd.C_alloc ?_ _) | (with_reducible refine Kd.C_drewN ?_ _) | (with_reducible refine Kd.C_drew ?_))); (case side2 => exact HC0.out); rintro e w' ⟨rfl, ⟨nd, rfl⟩⟩; (try first | exact ⟨rfl, _, World.drewN_drewN _ _ _⟩ | exact ⟨rfl, _, Eq.trans (World.drewN_drewN _ _ _) (congrArg (World.drewN _) (Nat.add_assoc _ _ _))⟩)))
    repeat (go_quiet (first | (go_at_call 13; (with_reducible refine (manteletlaw14_shown.calls k  t101 _ A2.out).mono ?_); rintro e w50 ⟨rfl, hb⟩; have n0_ := Aside0.mk (below_step (by repeat (first | (with_reducible first | exact HB.out | apply below_alloc | apply pw_below_drewN | apply below_drew1) | exact HB.out)) hb); clear HB; have HB := n0_; clear n0_; (try clear hb); (try clear hb2); (try clear hk); (try clear hi)) | (go_at_call 14; (with_reducible refine (manteletlaw14_few.calls k _ _ l0 false _ ?side1 ?side2 A3.out).mono ?_); (case side1 => repeat (first | exact (Kd.C_below HR0.out HB.out) | (with_reducible refine Kd.C_alloc ?_ _) | (with_reducible refine Kd.C_drewN ?_ _) | (with_reducible refine Kd.C_drew ?_))); (case side2 => exact HC0.out); rintro e w' ⟨rfl, ⟨nd, rfl⟩⟩; (try first | exact ⟨rfl, _, World.drewN_drewN _ _ _⟩ | exact ⟨rfl, _, Eq.trans (World.drewN_drewN _ _ _) (congrArg (World.drewN _) (Nat.add_assoc _ _ _))⟩))); try go_wp2_with (first | (go_at_call 13; (with_reducible refine (manteletlaw14_shown.calls k  t101 _ A2.out).mono ?_); rintro e w50 ⟨rfl, hb⟩; have n0_ := Aside0.mk (below_step (by repeat (first | (with_reducible first | exact HB.out | apply below_alloc | apply pw_below_drewN | apply below_drew1) | exact HB.out)) hb); clear HB; have HB := n0_; clear n0_; (try clear hb); (try clear hb2); (try clear hk); (try clear hi)) | (go_at_call 14; (with_reducible refine (manteletlaw14_few.calls k _ _ l0 false _ ?side1 ?side2 A3.out).mono ?_); (case side1 => repeat (first | exact (Kd.C_below HR0.out HB.out) | (with_reducible refine Kd.C_alloc ?_ _) | (with_reducible refine Kd.C_drewN ?_ _) | (with_reducible refine Kd.C_drew ?_))); (case side2 => exact HC0.out); rintro e w' ⟨rfl, ⟨nd, rfl⟩⟩; (try first | exact ⟨rfl, _, World.drewN_drewN _ _ _⟩ | exact ⟨rfl, _, Eq.trans (World.drewN_drewN _ _ _) (congrArg (World.drewN _) (Nat.add_assoc _ _ _))⟩))))
    go_ret
    exact ⟨by first | rfl | (simp [errW_none, errW_some] <;> rfl) | (simp [*, errW_none, errW_some] <;> rfl), by repeat (first | (with_reducible first | exact HB.out | apply below_alloc | apply pw_below_drewN | apply below_drew1) | exact HB.out)⟩

end Go.Proofs.Ytebdcblchjhmpaa.PDawLeast
