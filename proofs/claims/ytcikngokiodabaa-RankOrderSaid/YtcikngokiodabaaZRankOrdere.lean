/- RankOrder. (The texts that the proof is made of, one behind the other: part 5 of 6.) -/
import Derived.Test.YtcikngokiodabaaZRankOrdera
import Derived.Test.YtcikngokiodabaaZRankOrderb
import Derived.Test.YtcikngokiodabaaZRankOrderc
import Derived.Test.YtcikngokiodabaaZRankOrderd
namespace Go.Proofs.Ytcikngokiodabaa.PRankOrder
open Go.RowKit Go.Proofs.YtcikngokiodabaaW.PrintWords Go.Proofs.YtcikngokiodabaaW.PrintLast Go.Proofs.YtcikngokiodabaaW.PrintMore Go.Proofs.Ytcikngokiodabaa.K Go.Proofs.Ytcikngokiodabaa.PR13 Go.Proofs.Ytcikngokiodabaa.PSh13
attribute [local go_sem] max2_int min2_int max_two min_two max_three min_three max_four min_four   -- for this text's walks alone
set_option linter.unusedVariables false
set_option linter.unusedSimpArgs false

mutual
def manteletlaw13_RankOrder.l0 : Nat → Bool → List (S35) → List Int → Bool → Int → Option (Bool)
  | 0, _, _, _, _, _ => none
  | k + 1, x3, x4, x5, x6, x7 => if x7 < (x4.length : Int) then (if x6 = true then (manteletlaw13_RankOrder.j1 k x3 x4 x5 true x7) else (if 0 ≤ x7 then (if x7 < (x5.length : Int) then (manteletlaw13_RankOrder.j1 k x3 x4 x5 ((rd x5 x7) == 0) x7) else (none)) else (none))) else (if x3 = true then (some x6) else (some false))
def manteletlaw13_RankOrder.j1 : Nat → Bool → List (S35) → List Int → Bool → Int → Option (Bool)
  | 0, _, _, _, _, _ => none
  | k + 1, x3, x4, x5, x6, x7 => manteletlaw13_RankOrder.l1 k x3 x4 x5 x6 x7 0
def manteletlaw13_RankOrder.l1 : Nat → Bool → List (S35) → List Int → Bool → Int → Int → Option (Bool)
  | 0, _, _, _, _, _, _ => none
  | k + 1, x3, x4, x5, x6, x7, x8 => if x8 < (x4.length : Int) then (if 0 ≤ x7 then (if x7 < (x4.length : Int) then (if 0 ≤ x8 then (if ((rd_T35 x4 x7).f1) > ((rd_T35 x4 x8).f1) then (if x7 < (x5.length : Int) then (if x8 < (x5.length : Int) then (if (rd x5 x7) > (rd x5 x8) then (some false) else (if (x4.length : Int) ≤ 256 then (if (rd x5 x7) = (rd x5 x8) then (some false) else (if ((rd_T35 x4 x7).f1) = ((rd_T35 x4 x8).f1) then (some false) else (manteletlaw13_RankOrder.l1 k x3 x4 x5 x6 x7 (wrap64 (x8 + 1))))) else (if ((rd_T35 x4 x7).f1) = ((rd_T35 x4 x8).f1) then (if (rd x5 x7) = (rd x5 x8) then (manteletlaw13_RankOrder.l1 k x3 x4 x5 x6 x7 (wrap64 (x8 + 1))) else (some false)) else (manteletlaw13_RankOrder.l1 k x3 x4 x5 x6 x7 (wrap64 (x8 + 1)))))) else (none)) else (none)) else (if ((rd_T35 x4 x7).f1) = ((rd_T35 x4 x8).f1) then (if x7 < (x5.length : Int) then (if x8 < (x5.length : Int) then (if (rd x5 x7) = (rd x5 x8) then (manteletlaw13_RankOrder.l1 k x3 x4 x5 x6 x7 (wrap64 (x8 + 1))) else (some false)) else (none)) else (none)) else (manteletlaw13_RankOrder.l1 k x3 x4 x5 x6 x7 (wrap64 (x8 + 1))))) else (none)) else (none)) else (none)) else (if 0 ≤ x7 then (if x7 < (x5.length : Int) then (if (rd x5 x7) < 0 then (some false) else (if (rd x5 x7) > 255 then (some false) else (manteletlaw13_RankOrder.l0 k x3 x4 x5 x6 (wrap64 (x7 + 1))))) else (none)) else (none))
end
def manteletlaw13_RankOrder.f (k : Nat) (l0 : List Int) : Option (Bool) := (manteletlaw13_shown.f k).bind fun t101 => ((manteletlaw13_counts.f k l0).bind fun t102 => ((rank_Classes.f t102).bind fun t105 => (if (t105.length : Int) = (t102.length : Int) then (manteletlaw13_RankOrder.l0 k t101 t102 t105 ((t102.length : Int) == 0) 0) else (some false))))
set_option maxHeartbeats 8000000 in
set_option maxRecDepth 100000 in
theorem manteletlaw13_RankOrder.calls (k : Nat) (A0 : Option Addr) (c0 : Nat) (l0 : List Int) (r : Bool) (w : World) (hr0 : Kd.C (Kd.int .u64) w A0 l0.length l0) (hc0 : l0.length ≤ c0) (h : manteletlaw13_RankOrder.f k l0 = some r) :
    Calls Try.prog 4 #[.slice A0 l0.length c0] w fun e w' => e = .returned (.bool r) ∧ Below w.heap.size w w' := by
  have HR0 := Aside0.mk hr0
  have HC0 := Aside0.mk hc0
  clear hr0 hc0
  have HB := Aside0.mk (Below.refl w.heap.size w)
  have H : ((manteletlaw13_shown.f k).bind fun t101 => ((manteletlaw13_counts.f k l0).bind fun t102 => ((rank_Classes.f t102).bind fun t105 => (if (t105.length : Int) = (t102.length : Int) then (manteletlaw13_RankOrder.l0 k t101 t102 t105 ((t102.length : Int) == 0) 0) else (some false))))) = some r := h
  clear h
  replace H := Option.bind_eq_some_iff.mp H
  obtain ⟨t101, A20, H⟩ := H
  replace H : ((manteletlaw13_counts.f k l0).bind fun t102 => ((rank_Classes.f t102).bind fun t105 => (if (t105.length : Int) = (t102.length : Int) then (manteletlaw13_RankOrder.l0 k t101 t102 t105 ((t102.length : Int) == 0) 0) else (some false)))) = some r := H
  have A2 := Aside0.mk A20
  clear A20
  replace H := Option.bind_eq_some_iff.mp H
  obtain ⟨t102, A30, H⟩ := H
  replace H : ((rank_Classes.f t102).bind fun t105 => (if (t105.length : Int) = (t102.length : Int) then (manteletlaw13_RankOrder.l0 k t101 t102 t105 ((t102.length : Int) == 0) 0) else (some false))) = some r := H
  have A3 := Aside0.mk A30
  clear A30
  replace H := Option.bind_eq_some_iff.mp H
  obtain ⟨t105, A40, H⟩ := H
  replace H : (if (t105.length : Int) = (t102.length : Int) then (manteletlaw13_RankOrder.l0 k t101 t102 t105 ((t102.length : Int) == 0) 0) else (some false)) = some r := H
  have A4 := Aside0.mk A40
  clear A40
  by_cases c5 : (t105.length : Int) = (t102.length : Int)
  · rw [if_pos c5] at H
    have c5b0 : ((t105.length : Int) == (t102.length : Int)) = true := beq_iff_eq.mpr c5
    have c5b1 : ((t105.length : Int) != (t102.length : Int)) = false := bne_eq_false_iff_eq.mpr c5
    have c5b2 : (t105.length == t102.length) = true := by first | simpa using c5 | (simp at c5 ⊢; omega)
    clear c5
    have H' := Aside0.mk H
    clear H
    go_enter Try.func4, Try.ntmps4
    go_wp2_with (first | (go_at_call 8; (with_reducible refine (manteletlaw13_shown.calls k  t101 _ A2.out).mono ?_); rintro e w6 ⟨rfl, hb⟩; have n0_ := Aside0.mk (below_step (by repeat (first | (with_reducible first | exact HB.out | apply below_alloc | apply pw_below_drewN | apply below_drew1) | exact HB.out)) hb); clear HB; have HB := n0_; clear n0_; (try clear hb); (try clear hb2); (try clear hk); (try clear hi)) | (go_at_call 17; (with_reducible refine (manteletlaw13_counts.calls k _ _ l0 t102 _ ?side1 ?side2 A3.out).mono ?_); (case side1 => repeat (first | exact (Kd.C_below HR0.out HB.out) | (with_reducible refine Kd.C_alloc ?_ _) | (with_reducible refine Kd.C_drewN ?_ _) | (with_reducible refine Kd.C_drew ?_))); (case side2 => exact HC0.out); rintro e w7 ⟨v103, rfl, ho0, hb⟩; have n0_ := Aside0.mk (Kd.R_lower ho0 (below_size (by repeat (first | (with_reducible first | exact HB.out | apply below_alloc | apply pw_below_drewN | apply below_drew1) | exact HB.out)))); have n1_ := Aside0.mk (below_step (by repeat (first | (with_reducible first | exact HB.out | apply below_alloc | apply pw_below_drewN | apply below_drew1) | exact HB.out)) hb); clear HB; have HO104 := n0_; have HB := n1_; clear n0_ n1_; (try clear hb); (try clear hb2); (try clear hk); (try clear hi); (try clear ho0); obtain ⟨Ao8, co8, eo8⟩ := Kd.R_slice HO104.out; subst eo8) | (go_at_call 13; (with_reducible refine (rank_Classes.calls _ _ t102 t105 _ ?side1 ?side2 A4.out).mono ?_); (case side1 => repeat (first | exact (Kd.R_reads' HO104.out).2.2 | (with_reducible refine Kd.C_alloc ?_ _) | (with_reducible refine Kd.C_drewN ?_ _) | (with_reducible refine Kd.C_drew ?_))); (case side2 => exact (Kd.R_reads' HO104.out).2.1); rintro e w9 ⟨v106, rfl, ho0, hb⟩; have n0_ := Aside0.mk (Kd.R_below (by (with_reducible repeat (first | apply Kd.R_alloc | apply Kd.R_drewN | apply Kd.R_drew)); exact HO104.out) hb); have n1_ := Aside0.mk (Kd.R_lower ho0 (below_size (by repeat (first | (with_reducible first | exact HB.out | apply below_alloc | apply pw_below_drewN | apply below_drew1) | exact HB.out)))); have n2_ := Aside0.mk (below_step (by repeat (first | (with_reducible first | exact HB.out | apply below_alloc | apply pw_below_drewN | apply below_drew1) | exact HB.out)) hb); clear HO104; clear HB; have HO104 := n0_; have HO107 := n1_; have HB := n2_; clear n0_ n1_ n2_; (try clear hb); (try clear hb2); (try clear hk); (try clear hi); (try clear ho0); obtain ⟨Ao10, co10, eo10⟩ := Kd.R_slice HO107.out; subst eo10))
    repeat (go_quiet (first | (go_at_call 8; (with_reducible refine (manteletlaw13_shown.calls k  t101 _ A2.out).mono ?_); rintro e w6 ⟨rfl, hb⟩; have n0_ := Aside0.mk (below_step (by repeat (first | (with_reducible first | exact HB.out | apply below_alloc | apply pw_below_drewN | apply below_drew1) | exact HB.out)) hb); clear HB; have HB := n0_; clear n0_; (try clear hb); (try clear hb2); (try clear hk); (try clear hi)) | (go_at_call 17; (with_reducible refine (manteletlaw13_counts.calls k _ _ l0 t102 _ ?side1 ?side2 A3.out).mono ?_); (case side1 => repeat (first | exact (Kd.C_below HR0.out HB.out) | (with_reducible refine Kd.C_alloc ?_ _) | (with_reducible refine Kd.C_drewN ?_ _) | (with_reducible refine Kd.C_drew ?_))); (case side2 => exact HC0.out); rintro e w7 ⟨v103, rfl, ho0, hb⟩; have n0_ := Aside0.mk (Kd.R_lower ho0 (below_size (by repeat (first | (with_reducible first | exact HB.out | apply below_alloc | apply pw_below_drewN | apply below_drew1) | exact HB.out)))); have n1_ := Aside0.mk (below_step (by repeat (first | (with_reducible first | exact HB.out | apply below_alloc | apply pw_below_drewN | apply below_drew1) | exact HB.out)) hb); clear HB; have HO104 := n0_; have HB := n1_; clear n0_ n1_; (try clear hb); (try clear hb2); (try clear hk); (try clear hi); (try clear ho0); obtain ⟨Ao8, co8, eo8⟩ := Kd.R_slice HO104.out; subst eo8) | (go_at_call 13; (with_reducible refine (rank_Classes.calls _ _ t102 t105 _ ?side1 ?side2 A4.out).mono ?_); (case side1 => repeat (first | exact (Kd.R_reads' HO104.out).2.2 | (with_reducible refine Kd.C_alloc ?_ _) | (with_reducible refine Kd.C_drewN ?_ _) | (with_reducible refine Kd.C_drew ?_))); (case side2 => exact (Kd.R_reads' HO104.out).2.1); rintro e w9 ⟨v106, rfl, ho0, hb⟩; have n0_ := Aside0.mk (Kd.R_below (by (with_reducible repeat (first | apply Kd.R_alloc | apply Kd.R_drewN | apply Kd.R_drew)); exact HO104.out) hb); have n1_ := Aside0.mk (Kd.R_lower ho0 (below_size (by repeat (first | (with_reducible first | exact HB.out | apply below_alloc | apply pw_below_drewN | apply below_drew1) | exact HB.out)))); have n2_ := Aside0.mk (below_step (by repeat (first | (with_reducible first | exact HB.out | apply below_alloc | apply pw_below_drewN | apply below_drew1) | exact HB.out)) hb); clear HO104; clear HB; have HO104 := n0_; have HO107 := n1_; have HB := n2_; clear n0_ n1_ n2_; (try clear hb); (try clear hb2); (try clear hk); (try clear hi); (try clear ho0); obtain ⟨Ao10, co10, eo10⟩ := Kd.R_slice HO107.out; subst eo10)); try go_wp2_with (first | (go_at_call 8; (with_reducible refine (manteletlaw13_shown.calls k  t101 _ A2.out).mono ?_); rintro e w6 ⟨rfl, hb⟩; have n0_ := Aside0.mk (below_step (by repeat (first | (with_reducible first | exact HB.out | apply below_alloc | apply pw_below_drewN | apply below_drew1) | exact HB.out)) hb); clear HB; have HB := n0_; clear n0_; (try clear hb); (try clear hb2); (try clear hk); (try clear hi)) | (go_at_call 17; (with_reducible refine (manteletlaw13_counts.calls k _ _ l0 t102 _ ?side1 ?side2 A3.out).mono ?_); (case side1 => repeat (first | exact (Kd.C_below HR0.out HB.out) | (with_reducible refine Kd.C_alloc ?_ _) | (with_reducible refine Kd.C_drewN ?_ _) | (with_reducible refine Kd.C_drew ?_))); (case side2 => exact HC0.out); rintro e w7 ⟨v103, rfl, ho0, hb⟩; have n0_ := Aside0.mk (Kd.R_lower ho0 (below_size (by repeat (first | (with_reducible first | exact HB.out | apply below_alloc | apply pw_below_drewN | apply below_drew1) | exact HB.out)))); have n1_ := Aside0.mk (below_step (by repeat (first | (with_reducible first | exact HB.out | apply below_alloc | apply pw_below_drewN | apply below_drew1) | exact HB.out)) hb); clear HB; have HO104 := n0_; have HB := n1_; clear n0_ n1_; (try clear hb); (try clear hb2); (try clear hk); (try clear hi); (try clear ho0); obtain ⟨Ao8, co8, eo8⟩ := Kd.R_slice HO104.out; subst eo8) | (go_at_call 13; (with_reducible refine (rank_Classes.calls _ _ t102 t105 _ ?side1 ?side2 A4.out).mono ?_); (case side1 => repeat (first | exact (Kd.R_reads' HO104.out).2.2 | (with_reducible refine Kd.C_alloc ?_ _) | (with_reducible refine Kd.C_drewN ?_ _) | (with_reducible refine Kd.C_drew ?_))); (case side2 => exact (Kd.R_reads' HO104.out).2.1); rintro e w9 ⟨v106, rfl, ho0, hb⟩; have n0_ := Aside0.mk (Kd.R_below (by (with_reducible repeat (first | apply Kd.R_alloc | apply Kd.R_drewN | apply Kd.R_drew)); exact HO104.out) hb); have n1_ := Aside0.mk (Kd.R_lower ho0 (below_size (by repeat (first | (with_reducible first | exact HB.out | apply below_alloc | apply pw_below_drewN | apply below_drew1) | exact HB.out)))); have n2_ := Aside0.mk (below_step (by repeat (first | (with_reducible first | exact HB.out | apply below_alloc | apply pw_below_drewN | apply below_drew1) | exact HB.out)) hb); clear HO104; clear HB; have HO104 := n0_; have HO107 := n1_; have HB := n2_; clear n0_ n1_ n2_; (try clear hb); (try clear hb2); (try clear hk); (try clear hi); (try clear ho0); obtain ⟨Ao10, co10, eo10⟩ := Kd.R_slice HO107.out; subst eo10)))
    go_loopg [6, 7] k (fun kq v6 v7 w' => ∃ (x6_1 : Bool) (x7_1 : Int), v6 = .bool x6_1 ∧ v7 = .int .i64 x7_1 ∧ Aside0 (manteletlaw13_RankOrder.l0 kq t101 t102 t105 x6_1 x7_1 = some r) ∧ Aside0 (kq ≤ k) ∧ Aside0 (Kd.R k35 35 w' w.heap.size (fun _ => True) (.slice Ao8 t102.length co8) t102) ∧ Aside0 (Kd.R (Kd.int .i64) 3 w' w.heap.size (fun _ => True) (.slice Ao10 t105.length co10) t105) ∧ Aside0 (Below w.heap.size w w'))
    case atStart => exact ⟨(((t102.length : Int) == 0)), (0), (by first | rfl | (simp; done) | (simp [*]; done)), (by first | rfl | (simp; done) | (simp [*]; done)), H', ⟨Nat.le_refl _⟩, ⟨by (with_reducible repeat (first | apply Kd.R_alloc | apply Kd.R_drewN | apply Kd.R_drew)); exact HO104.out⟩, ⟨by (with_reducible repeat (first | apply Kd.R_alloc | apply Kd.R_drewN | apply Kd.R_drew)); exact HO107.out⟩, ⟨by repeat (first | (with_reducible first | exact HB.out | apply below_alloc | apply pw_below_drewN | apply below_drew1) | exact HB.out)⟩⟩
    case round =>
      clear H'
      try clear p2
      try clear c4
      try clear c5
      try clear c5b0
      try clear c5b1
      try clear c5b2
      obtain ⟨x6_1, x7_1, rfl, rfl, HA, HK1, HO_4, HO_5, HB⟩ := hrel
      cases gk with
      | zero => exact absurd HA.out (by simp [manteletlaw13_RankOrder.l0])
      | succ k1 =>
        have H := HA.out
        clear HA
        simp only [manteletlaw13_RankOrder.l0] at H
        by_cases c11 : x7_1 < (t102.length : Int)
        · rw [if_pos c11] at H
          have c11b0 : decide (x7_1 < (t102.length : Int)) = true := decide_eq_true c11
          clear c11
          have HC12 := Aside0.mk H
          clear H
          go_upto_region 10 with (fail)
          repeat (go_quiet (fail); go_upto_region 10 with (fail))
          go_cut [6] (fun v6 wc => ∃ (kq : Nat) (x6_11 : Bool), v6 = .bool x6_11 ∧ Aside0 (manteletlaw13_RankOrder.j1 kq t101 t102 t105 x6_11 x7_1 = some r) ∧ Aside0 (kq ≤ k1) ∧ Aside0 (Kd.R k35 35 wc w.heap.size (fun _ => True) (.slice Ao8 t102.length co8) t102) ∧ Aside0 (Kd.R (Kd.int .i64) 3 wc w.heap.size (fun _ => True) (.slice Ao10 t105.length co10) t105) ∧ Aside0 (Below w.heap.size w wc))
          case first =>
            have H := HC12.out
            clear HC12
            by_cases c13 : x6_1 = true
            · subst c13
              have H1 : (manteletlaw13_RankOrder.j1 k1 t101 t102 t105 true x7_1) = some r := by rw [if_pos rfl] at H; exact H
              clear H
              have H := H1
              clear H1
              have H' := Aside0.mk H
              clear H
              go_wp2
              repeat (go_quiet (fail); try go_wp2)
              go_meet
              case rel => exact ⟨_, (true), (by first | rfl | (simp; done) | (simp [*]; done)), H', ⟨by have := HK1.out; first | omega | exact Nat.le_refl _⟩, ⟨by (with_reducible repeat (first | apply Kd.R_alloc | apply Kd.R_drewN | apply Kd.R_drew)); exact HO_4.out⟩, ⟨by (with_reducible repeat (first | apply Kd.R_alloc | apply Kd.R_drewN | apply Kd.R_drew)); exact HO_5.out⟩, ⟨by repeat (first | (with_reducible first | exact HB.out | apply below_alloc | apply pw_below_drewN | apply below_drew1) | exact HB.out)⟩⟩
            · replace c13 := Bool.eq_false_iff.mpr c13
              subst c13
              have H1 : (if 0 ≤ x7_1 then (if x7_1 < (t105.length : Int) then (manteletlaw13_RankOrder.j1 k1 t101 t102 t105 ((rd t105 x7_1) == 0) x7_1) else (none)) else (none)) = some r := by rw [if_neg (show ¬ (false = true) by decide)] at H; exact H
              clear H
              have H := H1
              clear H1
              by_cases c14 : 0 ≤ x7_1
              · rw [if_pos c14] at H
                have c14b0 : decide (0 ≤ x7_1) = true := decide_eq_true c14
                clear c14
                (first | rw [c14b0] | (simp only [i64_w, i32_w]; rw [c14b0]) | skip)
                by_cases c15 : x7_1 < (t105.length : Int)
                · rw [if_pos c15] at H
                  have c15b0 : decide (x7_1 < (t105.length : Int)) = true := decide_eq_true c15
                  clear c15
                  have H' := Aside0.mk H
                  clear H
                  have p108 : 0 ≤ (x7_1 : Int) := of_decide_eq_true (by first | (with_reducible assumption) | assumption)
                  have q108 : x7_1 < (t105.length : Int) := of_decide_eq_true (by first | (with_reducible assumption) | assumption)
                  obtain ⟨ad108, e108, hx108_0⟩ := Kd.at_int (Kd.R_reads' HO_5.out).2.2 x7_1 p108 q108
                  cases e108
                  replace p108 := eq_true p108
                  replace q108 := eq_true q108
                  go_wp2
                  repeat (go_quiet (fail); try go_wp2)
                  go_meet
                  case rel => exact ⟨_, (((rd t105 x7_1) == 0)), (by first | rfl | (simp; done) | (simp [*]; done)), H', ⟨by have := HK1.out; first | omega | exact Nat.le_refl _⟩, ⟨by (with_reducible repeat (first | apply Kd.R_alloc | apply Kd.R_drewN | apply Kd.R_drew)); exact HO_4.out⟩, ⟨by (with_reducible repeat (first | apply Kd.R_alloc | apply Kd.R_drewN | apply Kd.R_drew)); exact HO_5.out⟩, ⟨by repeat (first | (with_reducible first | exact HB.out | apply below_alloc | apply pw_below_drewN | apply below_drew1) | exact HB.out)⟩⟩
                · rw [if_neg c15] at H
                  exact absurd H (by simp)
              · rw [if_neg c14] at H
                exact absurd H (by simp)
          case rest =>
            clear HC12
            try clear c1
            try clear p1
            try clear q1
            try clear hx1
            try clear p2
            try clear c4
            try clear c5
            try clear c5b0
            try clear c5b1
            try clear c5b2
            try clear p10
            try clear q10
            try clear hx10
            try clear c11
            try clear c11b0
            try clear c13
            try clear c14
            try clear c14b0
            try clear c15
            try clear c15b0
            try clear hx108_0
            try clear p108
            try clear p2
            try clear q108
            obtain ⟨kq, x6_11, rfl, HA, HJ11, HO_4, HO_5, HB⟩ := hcut
            cases kq with
            | zero => exact absurd HA.out (by simp [manteletlaw13_RankOrder.j1])
            | succ kj11 =>
              have H := HA.out
              clear HA
              simp only [manteletlaw13_RankOrder.j1] at H
              have H' := Aside0.mk H
              clear H
              go_wp2
              repeat (go_quiet (fail); try go_wp2)
              go_loopg [8] kj11 (fun kq v8 w' => ∃ (x8_3 : Int), v8 = .int .i64 x8_3 ∧ Aside0 (manteletlaw13_RankOrder.l1 kq t101 t102 t105 x6_11 x7_1 x8_3 = some r) ∧ Aside0 (kq ≤ kj11) ∧ Aside0 (Kd.R k35 35 w' w.heap.size (fun _ => True) (.slice Ao8 t102.length co8) t102) ∧ Aside0 (Kd.R (Kd.int .i64) 3 w' w.heap.size (fun _ => True) (.slice Ao10 t105.length co10) t105) ∧ Aside0 (Below w.heap.size w w'))
              case atStart => exact ⟨(0), (by first | rfl | (simp; done) | (simp [*]; done)), H', ⟨Nat.le_refl _⟩, ⟨by (with_reducible repeat (first | apply Kd.R_alloc | apply Kd.R_drewN | apply Kd.R_drew)); exact HO_4.out⟩, ⟨by (with_reducible repeat (first | apply Kd.R_alloc | apply Kd.R_drewN | apply Kd.R_drew)); exact HO_5.out⟩, ⟨by repeat (first | (with_reducible first | exact HB.out | apply below_alloc | apply pw_below_drewN | apply below_drew1) | exact HB.out)⟩⟩
              case round =>
                clear H'
                try clear c1
                try clear p1
                try clear q1
                try clear hx1
                try clear p2
                try clear c4
                try clear c5
                try clear c5b0
                try clear c5b1
                try clear c5b2
                try clear p10
                try clear q10
                try clear hx10
                try clear c11
                try clear c11b0
                try clear c13
                try clear c14
                try clear c14b0
                try clear c15
                try clear c15b0
                try clear hx108_0
                try clear p1
                try clear p10
                try clear p108
                try clear p2
                try clear q1
                try clear q10
                try clear q108
                obtain ⟨x8_3, rfl, HA, HK3, HO_4, HO_5, HB⟩ := hrel
                cases gk with
                | zero => exact absurd HA.out (by simp [manteletlaw13_RankOrder.l1])
                | succ k3 =>
                  have H := HA.out
                  clear HA
                  simp only [manteletlaw13_RankOrder.l1] at H
                  by_cases c16 : x8_3 < (t102.length : Int)
                  · rw [if_pos c16] at H
                    have c16b0 : decide (x8_3 < (t102.length : Int)) = true := decide_eq_true c16
                    clear c16
                    by_cases c17 : 0 ≤ x7_1
                    · rw [if_pos c17] at H
                      have c17b0 : decide (0 ≤ x7_1) = true := decide_eq_true c17
                      clear c17
                      by_cases c18 : x7_1 < (t102.length : Int)
                      · rw [if_pos c18] at H
                        have c18b0 : decide (x7_1 < (t102.length : Int)) = true := decide_eq_true c18
                        clear c18
                        by_cases c19 : 0 ≤ x8_3
                        · rw [if_pos c19] at H
                          have c19b0 : decide (0 ≤ x8_3) = true := decide_eq_true c19
                          clear c19
                          by_cases c20 : ((rd_T35 t102 x7_1).f1) > ((rd_T35 t102 x8_3).f1)
                          · rw [if_pos c20] at H
                            have c20b0 : decide (((rd_T35 t102 x8_3).f1) < ((rd_T35 t102 x7_1).f1)) = true := decide_eq_true c20
                            clear c20
                            by_cases c21 : x7_1 < (t105.length : Int)
                            · rw [if_pos c21] at H
                              have c21b0 : decide (x7_1 < (t105.length : Int)) = true := decide_eq_true c21
                              clear c21
                              by_cases c22 : x8_3 < (t105.length : Int)
                              · rw [if_pos c22] at H
                                have c22b0 : decide (x8_3 < (t105.length : Int)) = true := decide_eq_true c22
                                clear c22
                                by_cases c23 : (rd t105 x7_1) > (rd t105 x8_3)
                                · rw [if_pos c23] at H
                                  have c23b0 : decide ((rd t105 x8_3) < (rd t105 x7_1)) = true := decide_eq_true c23
                                  clear c23
                                  obtain rfl := Option.some.inj H
                                  have p109 : 0 ≤ (x7_1 : Int) := of_decide_eq_true (by first | (with_reducible assumption) | assumption)
                                  have q109 : x7_1 < (t102.length : Int) := of_decide_eq_true (by first | (with_reducible assumption) | assumption)
                                  obtain ⟨ad109, e109, hx109_0, hx109_1⟩ := at_T35 (Kd.R_reads' HO_4.out).2.2 x7_1 p109 q109
                                  cases e109
                                  replace p109 := eq_true p109
                                  replace q109 := eq_true q109
                                  have p110 : 0 ≤ (x8_3 : Int) := of_decide_eq_true (by first | (with_reducible assumption) | assumption)
                                  have q110 : x8_3 < (t102.length : Int) := of_decide_eq_true (by first | (with_reducible assumption) | assumption)
                                  obtain ⟨ad110, e110, hx110_0, hx110_1⟩ := at_T35 (Kd.R_reads' HO_4.out).2.2 x8_3 p110 q110
                                  obtain rfl : ad109 = ad110 := (by injection e110)
                                  replace p110 := eq_true p110
                                  replace q110 := eq_true q110
                                  have p111 : 0 ≤ (x7_1 : Int) := of_decide_eq_true (by first | (with_reducible assumption) | assumption)
                                  have q111 : x7_1 < (t105.length : Int) := of_decide_eq_true (by first | (with_reducible assumption) | assumption)
                                  obtain ⟨ad111, e111, hx111_0⟩ := Kd.at_int (Kd.R_reads' HO_5.out).2.2 x7_1 p111 q111
                                  cases e111
                                  replace p111 := eq_true p111
                                  replace q111 := eq_true q111
                                  have p112 : 0 ≤ (x8_3 : Int) := of_decide_eq_true (by first | (with_reducible assumption) | assumption)
                                  have q112 : x8_3 < (t105.length : Int) := of_decide_eq_true (by first | (with_reducible assumption) | assumption)
                                  obtain ⟨ad112, e112, hx112_0⟩ := Kd.at_int (Kd.R_reads' HO_5.out).2.2 x8_3 p112 q112
                                  obtain rfl : ad111 = ad112 := (by injection e112)
                                  replace p112 := eq_true p112
                                  replace q112 := eq_true q112
                                  go_wp2
                                  repeat (go_quiet (fail); try go_wp2)
                                  go_ret
                                  exact ⟨by first | rfl | (simp [errW_none, errW_some] <;> rfl) | (simp [*, errW_none, errW_some] <;> rfl), by repeat (first | (with_reducible first | exact HB.out | apply below_alloc | apply pw_below_drewN | apply below_drew1) | exact HB.out)⟩
                                · rw [if_neg c23] at H
                                  have c23b0 : decide ((rd t105 x8_3) < (rd t105 x7_1)) = false := decide_eq_false c23
                                  clear c23
                                  by_cases c24 : (t102.length : Int) ≤ 256
                                  · rw [if_pos c24] at H
                                    have c24b0 : decide ((t102.length : Int) ≤ 256) = true := decide_eq_true c24
                                    have c24b1 : decide (t102.length ≤ 256) = true := decide_eq_true (by omega)
                                    clear c24
                                    by_cases c25 : (rd t105 x7_1) = (rd t105 x8_3)
                                    · rw [if_pos c25] at H
                                      have c25b0 : ((rd t105 x7_1) == (rd t105 x8_3)) = true := beq_iff_eq.mpr c25
                                      have c25b1 : ((rd t105 x7_1) != (rd t105 x8_3)) = false := bne_eq_false_iff_eq.mpr c25
                                      clear c25
                                      obtain rfl := Option.some.inj H
                                      have p109 : 0 ≤ (x7_1 : Int) := of_decide_eq_true (by first | (with_reducible assumption) | assumption)
                                      have q109 : x7_1 < (t102.length : Int) := of_decide_eq_true (by first | (with_reducible assumption) | assumption)
                                      obtain ⟨ad109, e109, hx109_0, hx109_1⟩ := at_T35 (Kd.R_reads' HO_4.out).2.2 x7_1 p109 q109
                                      cases e109
                                      replace p109 := eq_true p109
                                      replace q109 := eq_true q109
                                      have p110 : 0 ≤ (x8_3 : Int) := of_decide_eq_true (by first | (with_reducible assumption) | assumption)
                                      have q110 : x8_3 < (t102.length : Int) := of_decide_eq_true (by first | (with_reducible assumption) | assumption)
                                      obtain ⟨ad110, e110, hx110_0, hx110_1⟩ := at_T35 (Kd.R_reads' HO_4.out).2.2 x8_3 p110 q110
                                      obtain rfl : ad109 = ad110 := (by injection e110)
                                      replace p110 := eq_true p110
                                      replace q110 := eq_true q110
                                      have p111 : 0 ≤ (x7_1 : Int) := of_decide_eq_true (by first | (with_reducible assumption) | assumption)
                                      have q111 : x7_1 < (t105.length : Int) := of_decide_eq_true (by first | (with_reducible assumption) | assumption)
                                      obtain ⟨ad111, e111, hx111_0⟩ := Kd.at_int (Kd.R_reads' HO_5.out).2.2 x7_1 p111 q111
                                      cases e111
                                      replace p111 := eq_true p111
                                      replace q111 := eq_true q111
                                      have p112 : 0 ≤ (x8_3 : Int) := of_decide_eq_true (by first | (with_reducible assumption) | assumption)
                                      have q112 : x8_3 < (t105.length : Int) := of_decide_eq_true (by first | (with_reducible assumption) | assumption)
                                      obtain ⟨ad112, e112, hx112_0⟩ := Kd.at_int (Kd.R_reads' HO_5.out).2.2 x8_3 p112 q112
                                      obtain rfl : ad111 = ad112 := (by injection e112)
                                      replace p112 := eq_true p112
                                      replace q112 := eq_true q112
                                      have p113 : 0 ≤ (x7_1 : Int) := of_decide_eq_true (by first | (with_reducible assumption) | assumption)
                                      have q113 : x7_1 < (t105.length : Int) := of_decide_eq_true (by first | (with_reducible assumption) | assumption)
                                      obtain ⟨ad113, e113, hx113_0⟩ := Kd.at_int (Kd.R_reads' HO_5.out).2.2 x7_1 p113 q113
                                      obtain rfl : ad111 = ad113 := (by injection e113)
                                      replace p113 := eq_true p113
                                      replace q113 := eq_true q113
                                      have p114 : 0 ≤ (x8_3 : Int) := of_decide_eq_true (by first | (with_reducible assumption) | assumption)
                                      have q114 : x8_3 < (t105.length : Int) := of_decide_eq_true (by first | (with_reducible assumption) | assumption)
                                      obtain ⟨ad114, e114, hx114_0⟩ := Kd.at_int (Kd.R_reads' HO_5.out).2.2 x8_3 p114 q114
                                      obtain rfl : ad111 = ad114 := (by injection e114)
                                      replace p114 := eq_true p114
                                      replace q114 := eq_true q114
                                      go_wp2
                                      repeat (go_quiet (fail); try go_wp2)
                                      go_ret
                                      exact ⟨by first | rfl | (simp [errW_none, errW_some] <;> rfl) | (simp [*, errW_none, errW_some] <;> rfl), by repeat (first | (with_reducible first | exact HB.out | apply below_alloc | apply pw_below_drewN | apply below_drew1) | exact HB.out)⟩
                                    · rw [if_neg c25] at H
                                      have c25b0 : ((rd t105 x7_1) == (rd t105 x8_3)) = false := beq_eq_false_iff_ne.mpr c25
                                      have c25b1 : ((rd t105 x7_1) != (rd t105 x8_3)) = true := bne_iff_ne.mpr c25
                                      by_cases c26 : ((rd_T35 t102 x7_1).f1) = ((rd_T35 t102 x8_3).f1)
                                      · rw [if_pos c26] at H
                                        have c26b0 : (((rd_T35 t102 x7_1).f1) == ((rd_T35 t102 x8_3).f1)) = true := beq_iff_eq.mpr c26
                                        have c26b1 : (((rd_T35 t102 x7_1).f1) != ((rd_T35 t102 x8_3).f1)) = false := bne_eq_false_iff_eq.mpr c26
                                        clear c26
                                        obtain rfl := Option.some.inj H
                                        have p109 : 0 ≤ (x7_1 : Int) := of_decide_eq_true (by first | (with_reducible assumption) | assumption)
                                        have q109 : x7_1 < (t102.length : Int) := of_decide_eq_true (by first | (with_reducible assumption) | assumption)
                                        obtain ⟨ad109, e109, hx109_0, hx109_1⟩ := at_T35 (Kd.R_reads' HO_4.out).2.2 x7_1 p109 q109
                                        cases e109
                                        replace p109 := eq_true p109
                                        replace q109 := eq_true q109
                                        have p110 : 0 ≤ (x8_3 : Int) := of_decide_eq_true (by first | (with_reducible assumption) | assumption)
                                        have q110 : x8_3 < (t102.length : Int) := of_decide_eq_true (by first | (with_reducible assumption) | assumption)
                                        obtain ⟨ad110, e110, hx110_0, hx110_1⟩ := at_T35 (Kd.R_reads' HO_4.out).2.2 x8_3 p110 q110
                                        obtain rfl : ad109 = ad110 := (by injection e110)
                                        replace p110 := eq_true p110
                                        replace q110 := eq_true q110
                                        have p111 : 0 ≤ (x7_1 : Int) := of_decide_eq_true (by first | (with_reducible assumption) | assumption)
                                        have q111 : x7_1 < (t105.length : Int) := of_decide_eq_true (by first | (with_reducible assumption) | assumption)
                                        obtain ⟨ad111, e111, hx111_0⟩ := Kd.at_int (Kd.R_reads' HO_5.out).2.2 x7_1 p111 q111
                                        cases e111
                                        replace p111 := eq_true p111
                                        replace q111 := eq_true q111
                                        have p112 : 0 ≤ (x8_3 : Int) := of_decide_eq_true (by first | (with_reducible assumption) | assumption)
                                        have q112 : x8_3 < (t105.length : Int) := of_decide_eq_true (by first | (with_reducible assumption) | assumption)
                                        obtain ⟨ad112, e112, hx112_0⟩ := Kd.at_int (Kd.R_reads' HO_5.out).2.2 x8_3 p112 q112
                                        obtain rfl : ad111 = ad112 := (by injection e112)
                                        replace p112 := eq_true p112
                                        replace q112 := eq_true q112
                                        have p113 : 0 ≤ (x7_1 : Int) := of_decide_eq_true (by first | (with_reducible assumption) | assumption)
                                        have q113 : x7_1 < (t105.length : Int) := of_decide_eq_true (by first | (with_reducible assumption) | assumption)
                                        obtain ⟨ad113, e113, hx113_0⟩ := Kd.at_int (Kd.R_reads' HO_5.out).2.2 x7_1 p113 q113
                                        obtain rfl : ad111 = ad113 := (by injection e113)
                                        replace p113 := eq_true p113
                                        replace q113 := eq_true q113
                                        have p114 : 0 ≤ (x8_3 : Int) := of_decide_eq_true (by first | (with_reducible assumption) | assumption)
                                        have q114 : x8_3 < (t105.length : Int) := of_decide_eq_true (by first | (with_reducible assumption) | assumption)
                                        obtain ⟨ad114, e114, hx114_0⟩ := Kd.at_int (Kd.R_reads' HO_5.out).2.2 x8_3 p114 q114
                                        obtain rfl : ad111 = ad114 := (by injection e114)
                                        replace p114 := eq_true p114
                                        replace q114 := eq_true q114
                                        have p115 : 0 ≤ (x7_1 : Int) := of_decide_eq_true (by first | (with_reducible assumption) | assumption)
                                        have q115 : x7_1 < (t102.length : Int) := of_decide_eq_true (by first | (with_reducible assumption) | assumption)
                                        obtain ⟨ad115, e115, hx115_0, hx115_1⟩ := at_T35 (Kd.R_reads' HO_4.out).2.2 x7_1 p115 q115
                                        obtain rfl : ad109 = ad115 := (by injection e115)
                                        replace p115 := eq_true p115
                                        replace q115 := eq_true q115
                                        have p116 : 0 ≤ (x8_3 : Int) := of_decide_eq_true (by first | (with_reducible assumption) | assumption)
                                        have q116 : x8_3 < (t102.length : Int) := of_decide_eq_true (by first | (with_reducible assumption) | assumption)
                                        obtain ⟨ad116, e116, hx116_0, hx116_1⟩ := at_T35 (Kd.R_reads' HO_4.out).2.2 x8_3 p116 q116
                                        obtain rfl : ad109 = ad116 := (by injection e116)
                                        replace p116 := eq_true p116
                                        replace q116 := eq_true q116
                                        have p117 : 0 ≤ (x7_1 : Int) := of_decide_eq_true (by first | (with_reducible assumption) | assumption)
                                        have q117 : x7_1 < (t105.length : Int) := of_decide_eq_true (by first | (with_reducible assumption) | assumption)
                                        obtain ⟨ad117, e117, hx117_0⟩ := Kd.at_int (Kd.R_reads' HO_5.out).2.2 x7_1 p117 q117
                                        obtain rfl : ad111 = ad117 := (by injection e117)
                                        replace p117 := eq_true p117
                                        replace q117 := eq_true q117
                                        have p118 : 0 ≤ (x8_3 : Int) := of_decide_eq_true (by first | (with_reducible assumption) | assumption)
                                        have q118 : x8_3 < (t105.length : Int) := of_decide_eq_true (by first | (with_reducible assumption) | assumption)
                                        obtain ⟨ad118, e118, hx118_0⟩ := Kd.at_int (Kd.R_reads' HO_5.out).2.2 x8_3 p118 q118
                                        obtain rfl : ad111 = ad118 := (by injection e118)
                                        replace p118 := eq_true p118
                                        replace q118 := eq_true q118
                                        go_wp2
                                        repeat (go_quiet (fail); try go_wp2)
                                        go_ret
                                        exact ⟨by first | rfl | (simp [errW_none, errW_some] <;> rfl) | (simp [*, errW_none, errW_some] <;> rfl), by repeat (first | (with_reducible first | exact HB.out | apply below_alloc | apply pw_below_drewN | apply below_drew1) | exact HB.out)⟩
                                      · rw [if_neg c26] at H
                                        have c26b0 : (((rd_T35 t102 x7_1).f1) == ((rd_T35 t102 x8_3).f1)) = false := beq_eq_false_iff_ne.mpr c26
                                        have c26b1 : (((rd_T35 t102 x7_1).f1) != ((rd_T35 t102 x8_3).f1)) = true := bne_iff_ne.mpr c26
                                        have H' := Aside0.mk H
                                        clear H
                                        have p109 : 0 ≤ (x7_1 : Int) := of_decide_eq_true (by first | (with_reducible assumption) | assumption)
                                        have q109 : x7_1 < (t102.length : Int) := of_decide_eq_true (by first | (with_reducible assumption) | assumption)
                                        obtain ⟨ad109, e109, hx109_0, hx109_1⟩ := at_T35 (Kd.R_reads' HO_4.out).2.2 x7_1 p109 q109
                                        cases e109
                                        replace p109 := eq_true p109
                                        replace q109 := eq_true q109
                                        have p110 : 0 ≤ (x8_3 : Int) := of_decide_eq_true (by first | (with_reducible assumption) | assumption)
                                        have q110 : x8_3 < (t102.length : Int) := of_decide_eq_true (by first | (with_reducible assumption) | assumption)
                                        obtain ⟨ad110, e110, hx110_0, hx110_1⟩ := at_T35 (Kd.R_reads' HO_4.out).2.2 x8_3 p110 q110
                                        obtain rfl : ad109 = ad110 := (by injection e110)
                                        replace p110 := eq_true p110
                                        replace q110 := eq_true q110
                                        have p111 : 0 ≤ (x7_1 : Int) := of_decide_eq_true (by first | (with_reducible assumption) | assumption)
                                        have q111 : x7_1 < (t105.length : Int) := of_decide_eq_true (by first | (with_reducible assumption) | assumption)
                                        obtain ⟨ad111, e111, hx111_0⟩ := Kd.at_int (Kd.R_reads' HO_5.out).2.2 x7_1 p111 q111
                                        cases e111
                                        replace p111 := eq_true p111
                                        replace q111 := eq_true q111
                                        have p112 : 0 ≤ (x8_3 : Int) := of_decide_eq_true (by first | (with_reducible assumption) | assumption)
                                        have q112 : x8_3 < (t105.length : Int) := of_decide_eq_true (by first | (with_reducible assumption) | assumption)
                                        obtain ⟨ad112, e112, hx112_0⟩ := Kd.at_int (Kd.R_reads' HO_5.out).2.2 x8_3 p112 q112
                                        obtain rfl : ad111 = ad112 := (by injection e112)
                                        replace p112 := eq_true p112
                                        replace q112 := eq_true q112
                                        have p113 : 0 ≤ (x7_1 : Int) := of_decide_eq_true (by first | (with_reducible assumption) | assumption)
                                        have q113 : x7_1 < (t105.length : Int) := of_decide_eq_true (by first | (with_reducible assumption) | assumption)
                                        obtain ⟨ad113, e113, hx113_0⟩ := Kd.at_int (Kd.R_reads' HO_5.out).2.2 x7_1 p113 q113
                                        obtain rfl : ad111 = ad113 := (by injection e113)
                                        replace p113 := eq_true p113
                                        replace q113 := eq_true q113
                                        have p114 : 0 ≤ (x8_3 : Int) := of_decide_eq_true (by first | (with_reducible assumption) | assumption)
                                        have q114 : x8_3 < (t105.length : Int) := of_decide_eq_true (by first | (with_reducible assumption) | assumption)
                                        obtain ⟨ad114, e114, hx114_0⟩ := Kd.at_int (Kd.R_reads' HO_5.out).2.2 x8_3 p114 q114
                                        obtain rfl : ad111 = ad114 := (by injection e114)
                                        replace p114 := eq_true p114
                                        replace q114 := eq_true q114
                                        have p115 : 0 ≤ (x7_1 : Int) := of_decide_eq_true (by first | (with_reducible assumption) | assumption)
                                        have q115 : x7_1 < (t102.length : Int) := of_decide_eq_true (by first | (with_reducible assumption) | assumption)
                                        obtain ⟨ad115, e115, hx115_0, hx115_1⟩ := at_T35 (Kd.R_reads' HO_4.out).2.2 x7_1 p115 q115
                                        obtain rfl : ad109 = ad115 := (by injection e115)
                                        replace p115 := eq_true p115
                                        replace q115 := eq_true q115
                                        have p116 : 0 ≤ (x8_3 : Int) := of_decide_eq_true (by first | (with_reducible assumption) | assumption)
                                        have q116 : x8_3 < (t102.length : Int) := of_decide_eq_true (by first | (with_reducible assumption) | assumption)
                                        obtain ⟨ad116, e116, hx116_0, hx116_1⟩ := at_T35 (Kd.R_reads' HO_4.out).2.2 x8_3 p116 q116
                                        obtain rfl : ad109 = ad116 := (by injection e116)
                                        replace p116 := eq_true p116
                                        replace q116 := eq_true q116
                                        go_wp2
                                        repeat (go_quiet (fail); try go_wp2)
                                        go_roundg k3
                                        case measure => have := HK1.out; have := HJ11.out; have := HK3.out; omega
                                        case rel => exact ⟨(wrap64 (x8_3 + 1)), (by first | rfl | (simp; done) | (simp [*]; done)), H', ⟨by have := HK1.out; have := HJ11.out; have := HK3.out; omega⟩, ⟨by (with_reducible repeat (first | apply Kd.R_alloc | apply Kd.R_drewN | apply Kd.R_drew)); exact HO_4.out⟩, ⟨by (with_reducible repeat (first | apply Kd.R_alloc | apply Kd.R_drewN | apply Kd.R_drew)); exact HO_5.out⟩, ⟨by repeat (first | (with_reducible first | exact HB.out | apply below_alloc | apply pw_below_drewN | apply below_drew1) | exact HB.out)⟩⟩
                                  · rw [if_neg c24] at H
                                    have c24b0 : decide ((t102.length : Int) ≤ 256) = false := decide_eq_false c24
                                    have c24b1 : decide (t102.length ≤ 256) = false := decide_eq_false (by omega)
                                    clear c24
                                    by_cases c27 : ((rd_T35 t102 x7_1).f1) = ((rd_T35 t102 x8_3).f1)
                                    · rw [if_pos c27] at H
                                      have c27b0 : (((rd_T35 t102 x7_1).f1) == ((rd_T35 t102 x8_3).f1)) = true := beq_iff_eq.mpr c27
                                      have c27b1 : (((rd_T35 t102 x7_1).f1) != ((rd_T35 t102 x8_3).f1)) = false := bne_eq_false_iff_eq.mpr c27
                                      clear c27
                                      by_cases c28 : (rd t105 x7_1) = (rd t105 x8_3)
                                      · rw [if_pos c28] at H
                                        have c28b0 : ((rd t105 x7_1) == (rd t105 x8_3)) = true := beq_iff_eq.mpr c28
                                        have c28b1 : ((rd t105 x7_1) != (rd t105 x8_3)) = false := bne_eq_false_iff_eq.mpr c28
                                        clear c28
                                        have H' := Aside0.mk H
                                        clear H
                                        have p109 : 0 ≤ (x7_1 : Int) := of_decide_eq_true (by first | (with_reducible assumption) | assumption)
                                        have q109 : x7_1 < (t102.length : Int) := of_decide_eq_true (by first | (with_reducible assumption) | assumption)
                                        obtain ⟨ad109, e109, hx109_0, hx109_1⟩ := at_T35 (Kd.R_reads' HO_4.out).2.2 x7_1 p109 q109
                                        cases e109
                                        replace p109 := eq_true p109
                                        replace q109 := eq_true q109
                                        have p110 : 0 ≤ (x8_3 : Int) := of_decide_eq_true (by first | (with_reducible assumption) | assumption)
                                        have q110 : x8_3 < (t102.length : Int) := of_decide_eq_true (by first | (with_reducible assumption) | assumption)
                                        obtain ⟨ad110, e110, hx110_0, hx110_1⟩ := at_T35 (Kd.R_reads' HO_4.out).2.2 x8_3 p110 q110
                                        obtain rfl : ad109 = ad110 := (by injection e110)
                                        replace p110 := eq_true p110
                                        replace q110 := eq_true q110
                                        have p111 : 0 ≤ (x7_1 : Int) := of_decide_eq_true (by first | (with_reducible assumption) | assumption)
                                        have q111 : x7_1 < (t105.length : Int) := of_decide_eq_true (by first | (with_reducible assumption) | assumption)
                                        obtain ⟨ad111, e111, hx111_0⟩ := Kd.at_int (Kd.R_reads' HO_5.out).2.2 x7_1 p111 q111
                                        cases e111
                                        replace p111 := eq_true p111
                                        replace q111 := eq_true q111
                                        have p112 : 0 ≤ (x8_3 : Int) := of_decide_eq_true (by first | (with_reducible assumption) | assumption)
                                        have q112 : x8_3 < (t105.length : Int) := of_decide_eq_true (by first | (with_reducible assumption) | assumption)
                                        obtain ⟨ad112, e112, hx112_0⟩ := Kd.at_int (Kd.R_reads' HO_5.out).2.2 x8_3 p112 q112
                                        obtain rfl : ad111 = ad112 := (by injection e112)
                                        replace p112 := eq_true p112
                                        replace q112 := eq_true q112
                                        have p119 : 0 ≤ (x7_1 : Int) := of_decide_eq_true (by first | (with_reducible assumption) | assumption)
                                        have q119 : x7_1 < (t102.length : Int) := of_decide_eq_true (by first | (with_reducible assumption) | assumption)
                                        obtain ⟨ad119, e119, hx119_0, hx119_1⟩ := at_T35 (Kd.R_reads' HO_4.out).2.2 x7_1 p119 q119
                                        obtain rfl : ad109 = ad119 := (by injection e119)
                                        replace p119 := eq_true p119
                                        replace q119 := eq_true q119
                                        have p120 : 0 ≤ (x8_3 : Int) := of_decide_eq_true (by first | (with_reducible assumption) | assumption)
                                        have q120 : x8_3 < (t102.length : Int) := of_decide_eq_true (by first | (with_reducible assumption) | assumption)
                                        obtain ⟨ad120, e120, hx120_0, hx120_1⟩ := at_T35 (Kd.R_reads' HO_4.out).2.2 x8_3 p120 q120
                                        obtain rfl : ad109 = ad120 := (by injection e120)
                                        replace p120 := eq_true p120
                                        replace q120 := eq_true q120
                                        have p121 : 0 ≤ (x7_1 : Int) := of_decide_eq_true (by first | (with_reducible assumption) | assumption)
                                        have q121 : x7_1 < (t105.length : Int) := of_decide_eq_true (by first | (with_reducible assumption) | assumption)
                                        obtain ⟨ad121, e121, hx121_0⟩ := Kd.at_int (Kd.R_reads' HO_5.out).2.2 x7_1 p121 q121
                                        obtain rfl : ad111 = ad121 := (by injection e121)
                                        replace p121 := eq_true p121
                                        replace q121 := eq_true q121
                                        have p122 : 0 ≤ (x8_3 : Int) := of_decide_eq_true (by first | (with_reducible assumption) | assumption)
                                        have q122 : x8_3 < (t105.length : Int) := of_decide_eq_true (by first | (with_reducible assumption) | assumption)
                                        obtain ⟨ad122, e122, hx122_0⟩ := Kd.at_int (Kd.R_reads' HO_5.out).2.2 x8_3 p122 q122
                                        obtain rfl : ad111 = ad122 := (by injection e122)
                                        replace p122 := eq_true p122
                                        replace q122 := eq_true q122
                                        go_wp2
                                        repeat (go_quiet (fail); try go_wp2)
                                        go_roundg k3
                                        case measure => have := HK1.out; have := HJ11.out; have := HK3.out; omega
                                        case rel => exact ⟨(wrap64 (x8_3 + 1)), (by first | rfl | (simp; done) | (simp [*]; done)), H', ⟨by have := HK1.out; have := HJ11.out; have := HK3.out; omega⟩, ⟨by (with_reducible repeat (first | apply Kd.R_alloc | apply Kd.R_drewN | apply Kd.R_drew)); exact HO_4.out⟩, ⟨by (with_reducible repeat (first | apply Kd.R_alloc | apply Kd.R_drewN | apply Kd.R_drew)); exact HO_5.out⟩, ⟨by repeat (first | (with_reducible first | exact HB.out | apply below_alloc | apply pw_below_drewN | apply below_drew1) | exact HB.out)⟩⟩
                                      · rw [if_neg c28] at H
                                        have c28b0 : ((rd t105 x7_1) == (rd t105 x8_3)) = false := beq_eq_false_iff_ne.mpr c28
                                        have c28b1 : ((rd t105 x7_1) != (rd t105 x8_3)) = true := bne_iff_ne.mpr c28
                                        obtain rfl := Option.some.inj H
                                        have p109 : 0 ≤ (x7_1 : Int) := of_decide_eq_true (by first | (with_reducible assumption) | assumption)
                                        have q109 : x7_1 < (t102.length : Int) := of_decide_eq_true (by first | (with_reducible assumption) | assumption)
                                        obtain ⟨ad109, e109, hx109_0, hx109_1⟩ := at_T35 (Kd.R_reads' HO_4.out).2.2 x7_1 p109 q109
                                        cases e109
                                        replace p109 := eq_true p109
                                        replace q109 := eq_true q109
                                        have p110 : 0 ≤ (x8_3 : Int) := of_decide_eq_true (by first | (with_reducible assumption) | assumption)
                                        have q110 : x8_3 < (t102.length : Int) := of_decide_eq_true (by first | (with_reducible assumption) | assumption)
                                        obtain ⟨ad110, e110, hx110_0, hx110_1⟩ := at_T35 (Kd.R_reads' HO_4.out).2.2 x8_3 p110 q110
                                        obtain rfl : ad109 = ad110 := (by injection e110)
                                        replace p110 := eq_true p110
                                        replace q110 := eq_true q110
                                        have p111 : 0 ≤ (x7_1 : Int) := of_decide_eq_true (by first | (with_reducible assumption) | assumption)
                                        have q111 : x7_1 < (t105.length : Int) := of_decide_eq_true (by first | (with_reducible assumption) | assumption)
                                        obtain ⟨ad111, e111, hx111_0⟩ := Kd.at_int (Kd.R_reads' HO_5.out).2.2 x7_1 p111 q111
                                        cases e111
                                        replace p111 := eq_true p111
                                        replace q111 := eq_true q111
                                        have p112 : 0 ≤ (x8_3 : Int) := of_decide_eq_true (by first | (with_reducible assumption) | assumption)
                                        have q112 : x8_3 < (t105.length : Int) := of_decide_eq_true (by first | (with_reducible assumption) | assumption)
                                        obtain ⟨ad112, e112, hx112_0⟩ := Kd.at_int (Kd.R_reads' HO_5.out).2.2 x8_3 p112 q112
                                        obtain rfl : ad111 = ad112 := (by injection e112)
                                        replace p112 := eq_true p112
                                        replace q112 := eq_true q112
                                        have p119 : 0 ≤ (x7_1 : Int) := of_decide_eq_true (by first | (with_reducible assumption) | assumption)
                                        have q119 : x7_1 < (t102.length : Int) := of_decide_eq_true (by first | (with_reducible assumption) | assumption)
                                        obtain ⟨ad119, e119, hx119_0, hx119_1⟩ := at_T35 (Kd.R_reads' HO_4.out).2.2 x7_1 p119 q119
                                        obtain rfl : ad109 = ad119 := (by injection e119)
                                        replace p119 := eq_true p119
                                        replace q119 := eq_true q119
                                        have p120 : 0 ≤ (x8_3 : Int) := of_decide_eq_true (by first | (with_reducible assumption) | assumption)
                                        have q120 : x8_3 < (t102.length : Int) := of_decide_eq_true (by first | (with_reducible assumption) | assumption)
                                        obtain ⟨ad120, e120, hx120_0, hx120_1⟩ := at_T35 (Kd.R_reads' HO_4.out).2.2 x8_3 p120 q120
                                        obtain rfl : ad109 = ad120 := (by injection e120)
                                        replace p120 := eq_true p120
                                        replace q120 := eq_true q120
                                        have p121 : 0 ≤ (x7_1 : Int) := of_decide_eq_true (by first | (with_reducible assumption) | assumption)
                                        have q121 : x7_1 < (t105.length : Int) := of_decide_eq_true (by first | (with_reducible assumption) | assumption)
                                        obtain ⟨ad121, e121, hx121_0⟩ := Kd.at_int (Kd.R_reads' HO_5.out).2.2 x7_1 p121 q121
                                        obtain rfl : ad111 = ad121 := (by injection e121)
                                        replace p121 := eq_true p121
                                        replace q121 := eq_true q121
                                        have p122 : 0 ≤ (x8_3 : Int) := of_decide_eq_true (by first | (with_reducible assumption) | assumption)
                                        have q122 : x8_3 < (t105.length : Int) := of_decide_eq_true (by first | (with_reducible assumption) | assumption)
                                        obtain ⟨ad122, e122, hx122_0⟩ := Kd.at_int (Kd.R_reads' HO_5.out).2.2 x8_3 p122 q122
                                        obtain rfl : ad111 = ad122 := (by injection e122)
                                        replace p122 := eq_true p122
                                        replace q122 := eq_true q122
                                        go_wp2
                                        repeat (go_quiet (fail); try go_wp2)
                                        go_ret
                                        exact ⟨by first | rfl | (simp [errW_none, errW_some] <;> rfl) | (simp [*, errW_none, errW_some] <;> rfl), by repeat (first | (with_reducible first | exact HB.out | apply below_alloc | apply pw_below_drewN | apply below_drew1) | exact HB.out)⟩
                                    · rw [if_neg c27] at H
                                      have c27b0 : (((rd_T35 t102 x7_1).f1) == ((rd_T35 t102 x8_3).f1)) = false := beq_eq_false_iff_ne.mpr c27
                                      have c27b1 : (((rd_T35 t102 x7_1).f1) != ((rd_T35 t102 x8_3).f1)) = true := bne_iff_ne.mpr c27
                                      have H' := Aside0.mk H
                                      clear H
                                      have p109 : 0 ≤ (x7_1 : Int) := of_decide_eq_true (by first | (with_reducible assumption) | assumption)
                                      have q109 : x7_1 < (t102.length : Int) := of_decide_eq_true (by first | (with_reducible assumption) | assumption)
                                      obtain ⟨ad109, e109, hx109_0, hx109_1⟩ := at_T35 (Kd.R_reads' HO_4.out).2.2 x7_1 p109 q109
                                      cases e109
                                      replace p109 := eq_true p109
                                      replace q109 := eq_true q109
                                      have p110 : 0 ≤ (x8_3 : Int) := of_decide_eq_true (by first | (with_reducible assumption) | assumption)
                                      have q110 : x8_3 < (t102.length : Int) := of_decide_eq_true (by first | (with_reducible assumption) | assumption)
                                      obtain ⟨ad110, e110, hx110_0, hx110_1⟩ := at_T35 (Kd.R_reads' HO_4.out).2.2 x8_3 p110 q110
                                      obtain rfl : ad109 = ad110 := (by injection e110)
                                      replace p110 := eq_true p110
                                      replace q110 := eq_true q110
                                      have p111 : 0 ≤ (x7_1 : Int) := of_decide_eq_true (by first | (with_reducible assumption) | assumption)
                                      have q111 : x7_1 < (t105.length : Int) := of_decide_eq_true (by first | (with_reducible assumption) | assumption)
                                      obtain ⟨ad111, e111, hx111_0⟩ := Kd.at_int (Kd.R_reads' HO_5.out).2.2 x7_1 p111 q111
                                      cases e111
                                      replace p111 := eq_true p111
                                      replace q111 := eq_true q111
                                      have p112 : 0 ≤ (x8_3 : Int) := of_decide_eq_true (by first | (with_reducible assumption) | assumption)
                                      have q112 : x8_3 < (t105.length : Int) := of_decide_eq_true (by first | (with_reducible assumption) | assumption)
                                      obtain ⟨ad112, e112, hx112_0⟩ := Kd.at_int (Kd.R_reads' HO_5.out).2.2 x8_3 p112 q112
                                      obtain rfl : ad111 = ad112 := (by injection e112)
                                      replace p112 := eq_true p112
                                      replace q112 := eq_true q112
                                      have p119 : 0 ≤ (x7_1 : Int) := of_decide_eq_true (by first | (with_reducible assumption) | assumption)
                                      have q119 : x7_1 < (t102.length : Int) := of_decide_eq_true (by first | (with_reducible assumption) | assumption)
                                      obtain ⟨ad119, e119, hx119_0, hx119_1⟩ := at_T35 (Kd.R_reads' HO_4.out).2.2 x7_1 p119 q119
                                      obtain rfl : ad109 = ad119 := (by injection e119)
                                      replace p119 := eq_true p119
                                      replace q119 := eq_true q119
                                      have p120 : 0 ≤ (x8_3 : Int) := of_decide_eq_true (by first | (with_reducible assumption) | assumption)
                                      have q120 : x8_3 < (t102.length : Int) := of_decide_eq_true (by first | (with_reducible assumption) | assumption)
                                      obtain ⟨ad120, e120, hx120_0, hx120_1⟩ := at_T35 (Kd.R_reads' HO_4.out).2.2 x8_3 p120 q120
                                      obtain rfl : ad109 = ad120 := (by injection e120)
                                      replace p120 := eq_true p120
                                      replace q120 := eq_true q120
                                      go_wp2
                                      repeat (go_quiet (fail); try go_wp2)
                                      go_roundg k3
                                      case measure => have := HK1.out; have := HJ11.out; have := HK3.out; omega
                                      case rel => exact ⟨(wrap64 (x8_3 + 1)), (by first | rfl | (simp; done) | (simp [*]; done)), H', ⟨by have := HK1.out; have := HJ11.out; have := HK3.out; omega⟩, ⟨by (with_reducible repeat (first | apply Kd.R_alloc | apply Kd.R_drewN | apply Kd.R_drew)); exact HO_4.out⟩, ⟨by (with_reducible repeat (first | apply Kd.R_alloc | apply Kd.R_drewN | apply Kd.R_drew)); exact HO_5.out⟩, ⟨by repeat (first | (with_reducible first | exact HB.out | apply below_alloc | apply pw_below_drewN | apply below_drew1) | exact HB.out)⟩⟩
                              · rw [if_neg c22] at H
                                exact absurd H (by simp)
                            · rw [if_neg c21] at H
                              exact absurd H (by simp)
                          · rw [if_neg c20] at H
                            have c20b0 : decide (((rd_T35 t102 x8_3).f1) < ((rd_T35 t102 x7_1).f1)) = false := decide_eq_false c20
                            clear c20
                            by_cases c29 : ((rd_T35 t102 x7_1).f1) = ((rd_T35 t102 x8_3).f1)
                            · rw [if_pos c29] at H
                              have c29b0 : (((rd_T35 t102 x7_1).f1) == ((rd_T35 t102 x8_3).f1)) = true := beq_iff_eq.mpr c29
                              have c29b1 : (((rd_T35 t102 x7_1).f1) != ((rd_T35 t102 x8_3).f1)) = false := bne_eq_false_iff_eq.mpr c29
                              clear c29
                              by_cases c30 : x7_1 < (t105.length : Int)
                              · rw [if_pos c30] at H
                                have c30b0 : decide (x7_1 < (t105.length : Int)) = true := decide_eq_true c30
                                clear c30
                                by_cases c31 : x8_3 < (t105.length : Int)
                                · rw [if_pos c31] at H
                                  have c31b0 : decide (x8_3 < (t105.length : Int)) = true := decide_eq_true c31
                                  clear c31
                                  by_cases c32 : (rd t105 x7_1) = (rd t105 x8_3)
                                  · rw [if_pos c32] at H
                                    have c32b0 : ((rd t105 x7_1) == (rd t105 x8_3)) = true := beq_iff_eq.mpr c32
                                    have c32b1 : ((rd t105 x7_1) != (rd t105 x8_3)) = false := bne_eq_false_iff_eq.mpr c32
                                    clear c32
                                    have H' := Aside0.mk H
                                    clear H
                                    have p109 : 0 ≤ (x7_1 : Int) := of_decide_eq_true (by first | (with_reducible assumption) | assumption)
                                    have q109 : x7_1 < (t102.length : Int) := of_decide_eq_true (by first | (with_reducible assumption) | assumption)
                                    obtain ⟨ad109, e109, hx109_0, hx109_1⟩ := at_T35 (Kd.R_reads' HO_4.out).2.2 x7_1 p109 q109
                                    cases e109
                                    replace p109 := eq_true p109
                                    replace q109 := eq_true q109
                                    have p110 : 0 ≤ (x8_3 : Int) := of_decide_eq_true (by first | (with_reducible assumption) | assumption)
                                    have q110 : x8_3 < (t102.length : Int) := of_decide_eq_true (by first | (with_reducible assumption) | assumption)
                                    obtain ⟨ad110, e110, hx110_0, hx110_1⟩ := at_T35 (Kd.R_reads' HO_4.out).2.2 x8_3 p110 q110
                                    obtain rfl : ad109 = ad110 := (by injection e110)
                                    replace p110 := eq_true p110
                                    replace q110 := eq_true q110
                                    have p123 : 0 ≤ (x7_1 : Int) := of_decide_eq_true (by first | (with_reducible assumption) | assumption)
                                    have q123 : x7_1 < (t102.length : Int) := of_decide_eq_true (by first | (with_reducible assumption) | assumption)
                                    obtain ⟨ad123, e123, hx123_0, hx123_1⟩ := at_T35 (Kd.R_reads' HO_4.out).2.2 x7_1 p123 q123
                                    obtain rfl : ad109 = ad123 := (by injection e123)
                                    replace p123 := eq_true p123
                                    replace q123 := eq_true q123
                                    have p124 : 0 ≤ (x8_3 : Int) := of_decide_eq_true (by first | (with_reducible assumption) | assumption)
                                    have q124 : x8_3 < (t102.length : Int) := of_decide_eq_true (by first | (with_reducible assumption) | assumption)
                                    obtain ⟨ad124, e124, hx124_0, hx124_1⟩ := at_T35 (Kd.R_reads' HO_4.out).2.2 x8_3 p124 q124
                                    obtain rfl : ad109 = ad124 := (by injection e124)
                                    replace p124 := eq_true p124
                                    replace q124 := eq_true q124
                                    have p125 : 0 ≤ (x7_1 : Int) := of_decide_eq_true (by first | (with_reducible assumption) | assumption)
                                    have q125 : x7_1 < (t105.length : Int) := of_decide_eq_true (by first | (with_reducible assumption) | assumption)
                                    obtain ⟨ad125, e125, hx125_0⟩ := Kd.at_int (Kd.R_reads' HO_5.out).2.2 x7_1 p125 q125
                                    cases e125
                                    replace p125 := eq_true p125
                                    replace q125 := eq_true q125
                                    have p126 : 0 ≤ (x8_3 : Int) := of_decide_eq_true (by first | (with_reducible assumption) | assumption)
                                    have q126 : x8_3 < (t105.length : Int) := of_decide_eq_true (by first | (with_reducible assumption) | assumption)
                                    obtain ⟨ad126, e126, hx126_0⟩ := Kd.at_int (Kd.R_reads' HO_5.out).2.2 x8_3 p126 q126
                                    obtain rfl : ad125 = ad126 := (by injection e126)
                                    replace p126 := eq_true p126
                                    replace q126 := eq_true q126
                                    go_wp2
                                    repeat (go_quiet (fail); try go_wp2)
                                    go_roundg k3
                                    case measure => have := HK1.out; have := HJ11.out; have := HK3.out; omega
                                    case rel => exact ⟨(wrap64 (x8_3 + 1)), (by first | rfl | (simp; done) | (simp [*]; done)), H', ⟨by have := HK1.out; have := HJ11.out; have := HK3.out; omega⟩, ⟨by (with_reducible repeat (first | apply Kd.R_alloc | apply Kd.R_drewN | apply Kd.R_drew)); exact HO_4.out⟩, ⟨by (with_reducible repeat (first | apply Kd.R_alloc | apply Kd.R_drewN | apply Kd.R_drew)); exact HO_5.out⟩, ⟨by repeat (first | (with_reducible first | exact HB.out | apply below_alloc | apply pw_below_drewN | apply below_drew1) | exact HB.out)⟩⟩
                                  · rw [if_neg c32] at H
                                    have c32b0 : ((rd t105 x7_1) == (rd t105 x8_3)) = false := beq_eq_false_iff_ne.mpr c32
                                    have c32b1 : ((rd t105 x7_1) != (rd t105 x8_3)) = true := bne_iff_ne.mpr c32
                                    obtain rfl := Option.some.inj H
                                    have p109 : 0 ≤ (x7_1 : Int) := of_decide_eq_true (by first | (with_reducible assumption) | assumption)
                                    have q109 : x7_1 < (t102.length : Int) := of_decide_eq_true (by first | (with_reducible assumption) | assumption)
                                    obtain ⟨ad109, e109, hx109_0, hx109_1⟩ := at_T35 (Kd.R_reads' HO_4.out).2.2 x7_1 p109 q109
                                    cases e109
                                    replace p109 := eq_true p109
                                    replace q109 := eq_true q109
                                    have p110 : 0 ≤ (x8_3 : Int) := of_decide_eq_true (by first | (with_reducible assumption) | assumption)
                                    have q110 : x8_3 < (t102.length : Int) := of_decide_eq_true (by first | (with_reducible assumption) | assumption)
                                    obtain ⟨ad110, e110, hx110_0, hx110_1⟩ := at_T35 (Kd.R_reads' HO_4.out).2.2 x8_3 p110 q110
                                    obtain rfl : ad109 = ad110 := (by injection e110)
                                    replace p110 := eq_true p110
                                    replace q110 := eq_true q110
                                    have p123 : 0 ≤ (x7_1 : Int) := of_decide_eq_true (by first | (with_reducible assumption) | assumption)
                                    have q123 : x7_1 < (t102.length : Int) := of_decide_eq_true (by first | (with_reducible assumption) | assumption)
                                    obtain ⟨ad123, e123, hx123_0, hx123_1⟩ := at_T35 (Kd.R_reads' HO_4.out).2.2 x7_1 p123 q123
                                    obtain rfl : ad109 = ad123 := (by injection e123)
                                    replace p123 := eq_true p123
                                    replace q123 := eq_true q123
                                    have p124 : 0 ≤ (x8_3 : Int) := of_decide_eq_true (by first | (with_reducible assumption) | assumption)
                                    have q124 : x8_3 < (t102.length : Int) := of_decide_eq_true (by first | (with_reducible assumption) | assumption)
                                    obtain ⟨ad124, e124, hx124_0, hx124_1⟩ := at_T35 (Kd.R_reads' HO_4.out).2.2 x8_3 p124 q124
                                    obtain rfl : ad109 = ad124 := (by injection e124)
                                    replace p124 := eq_true p124
                                    replace q124 := eq_true q124
                                    have p125 : 0 ≤ (x7_1 : Int) := of_decide_eq_true (by first | (with_reducible assumption) | assumption)
                                    have q125 : x7_1 < (t105.length : Int) := of_decide_eq_true (by first | (with_reducible assumption) | assumption)
                                    obtain ⟨ad125, e125, hx125_0⟩ := Kd.at_int (Kd.R_reads' HO_5.out).2.2 x7_1 p125 q125
                                    cases e125
                                    replace p125 := eq_true p125
                                    replace q125 := eq_true q125
                                    have p126 : 0 ≤ (x8_3 : Int) := of_decide_eq_true (by first | (with_reducible assumption) | assumption)
                                    have q126 : x8_3 < (t105.length : Int) := of_decide_eq_true (by first | (with_reducible assumption) | assumption)
                                    obtain ⟨ad126, e126, hx126_0⟩ := Kd.at_int (Kd.R_reads' HO_5.out).2.2 x8_3 p126 q126
                                    obtain rfl : ad125 = ad126 := (by injection e126)
                                    replace p126 := eq_true p126
                                    replace q126 := eq_true q126
                                    go_wp2
                                    repeat (go_quiet (fail); try go_wp2)
                                    go_ret
                                    exact ⟨by first | rfl | (simp [errW_none, errW_some] <;> rfl) | (simp [*, errW_none, errW_some] <;> rfl), by repeat (first | (with_reducible first | exact HB.out | apply below_alloc | apply pw_below_drewN | apply below_drew1) | exact HB.out)⟩
                                · rw [if_neg c31] at H
                                  exact absurd H (by simp)
                              · rw [if_neg c30] at H
                                exact absurd H (by simp)
                            · rw [if_neg c29] at H
                              have c29b0 : (((rd_T35 t102 x7_1).f1) == ((rd_T35 t102 x8_3).f1)) = false := beq_eq_false_iff_ne.mpr c29
                              have c29b1 : (((rd_T35 t102 x7_1).f1) != ((rd_T35 t102 x8_3).f1)) = true := bne_iff_ne.mpr c29
                              have H' := Aside0.mk H
                              clear H
                              have p109 : 0 ≤ (x7_1 : Int) := of_decide_eq_true (by first | (with_reducible assumption) | assumption)
                              have q109 : x7_1 < (t102.length : Int) := of_decide_eq_true (by first | (with_reducible assumption) | assumption)
                              obtain ⟨ad109, e109, hx109_0, hx109_1⟩ := at_T35 (Kd.R_reads' HO_4.out).2.2 x7_1 p109 q109
                              cases e109
                              replace p109 := eq_true p109
                              replace q109 := eq_true q109
                              have p110 : 0 ≤ (x8_3 : Int) := of_decide_eq_true (by first | (with_reducible assumption) | assumption)
                              have q110 : x8_3 < (t102.length : Int) := of_decide_eq_true (by first | (with_reducible assumption) | assumption)
                              obtain ⟨ad110, e110, hx110_0, hx110_1⟩ := at_T35 (Kd.R_reads' HO_4.out).2.2 x8_3 p110 q110
                              obtain rfl : ad109 = ad110 := (by injection e110)
                              replace p110 := eq_true p110
                              replace q110 := eq_true q110
                              have p123 : 0 ≤ (x7_1 : Int) := of_decide_eq_true (by first | (with_reducible assumption) | assumption)
                              have q123 : x7_1 < (t102.length : Int) := of_decide_eq_true (by first | (with_reducible assumption) | assumption)
                              obtain ⟨ad123, e123, hx123_0, hx123_1⟩ := at_T35 (Kd.R_reads' HO_4.out).2.2 x7_1 p123 q123
                              obtain rfl : ad109 = ad123 := (by injection e123)
                              replace p123 := eq_true p123
                              replace q123 := eq_true q123
                              have p124 : 0 ≤ (x8_3 : Int) := of_decide_eq_true (by first | (with_reducible assumption) | assumption)
                              have q124 : x8_3 < (t102.length : Int) := of_decide_eq_true (by first | (with_reducible assumption) | assumption)
                              obtain ⟨ad124, e124, hx124_0, hx124_1⟩ := at_T35 (Kd.R_reads' HO_4.out).2.2 x8_3 p124 q124
                              obtain rfl : ad109 = ad124 := (by injection e124)
                              replace p124 := eq_true p124
                              replace q124 := eq_true q124
                              go_wp2
                              repeat (go_quiet (fail); try go_wp2)
                              go_roundg k3
                              case measure => have := HK1.out; have := HJ11.out; have := HK3.out; omega
                              case rel => exact ⟨(wrap64 (x8_3 + 1)), (by first | rfl | (simp; done) | (simp [*]; done)), H', ⟨by have := HK1.out; have := HJ11.out; have := HK3.out; omega⟩, ⟨by (with_reducible repeat (first | apply Kd.R_alloc | apply Kd.R_drewN | apply Kd.R_drew)); exact HO_4.out⟩, ⟨by (with_reducible repeat (first | apply Kd.R_alloc | apply Kd.R_drewN | apply Kd.R_drew)); exact HO_5.out⟩, ⟨by repeat (first | (with_reducible first | exact HB.out | apply below_alloc | apply pw_below_drewN | apply below_drew1) | exact HB.out)⟩⟩
                        · rw [if_neg c19] at H
                          exact absurd H (by simp)
                      · rw [if_neg c18] at H
                        exact absurd H (by simp)
                    · rw [if_neg c17] at H
                      exact absurd H (by simp)
                  · rw [if_neg c16] at H
                    have c16b0 : decide (x8_3 < (t102.length : Int)) = false := decide_eq_false c16
                    clear c16
                    by_cases c33 : 0 ≤ x7_1
                    · rw [if_pos c33] at H
                      have c33b0 : decide (0 ≤ x7_1) = true := decide_eq_true c33
                      clear c33
                      by_cases c34 : x7_1 < (t105.length : Int)
                      · rw [if_pos c34] at H
                        have c34b0 : decide (x7_1 < (t105.length : Int)) = true := decide_eq_true c34
                        clear c34
                        by_cases c35 : (rd t105 x7_1) < 0
                        · rw [if_pos c35] at H
                          have c35b0 : decide ((rd t105 x7_1) < 0) = true := decide_eq_true c35
                          clear c35
                          obtain rfl := Option.some.inj H
                          have p127 : 0 ≤ (x7_1 : Int) := of_decide_eq_true (by first | (with_reducible assumption) | assumption)
                          have q127 : x7_1 < (t105.length : Int) := of_decide_eq_true (by first | (with_reducible assumption) | assumption)
                          obtain ⟨ad127, e127, hx127_0⟩ := Kd.at_int (Kd.R_reads' HO_5.out).2.2 x7_1 p127 q127
                          cases e127
                          replace p127 := eq_true p127
                          replace q127 := eq_true q127
                          go_wp2
                          repeat (go_quiet (fail); try go_wp2)
                          go_ret
                          exact ⟨by first | rfl | (simp [errW_none, errW_some] <;> rfl) | (simp [*, errW_none, errW_some] <;> rfl), by repeat (first | (with_reducible first | exact HB.out | apply below_alloc | apply pw_below_drewN | apply below_drew1) | exact HB.out)⟩
                        · rw [if_neg c35] at H
                          have c35b0 : decide ((rd t105 x7_1) < 0) = false := decide_eq_false c35
                          clear c35
                          by_cases c36 : (rd t105 x7_1) > 255
                          · rw [if_pos c36] at H
                            have c36b0 : decide (255 < (rd t105 x7_1)) = true := decide_eq_true c36
                            clear c36
                            obtain rfl := Option.some.inj H
                            have p127 : 0 ≤ (x7_1 : Int) := of_decide_eq_true (by first | (with_reducible assumption) | assumption)
                            have q127 : x7_1 < (t105.length : Int) := of_decide_eq_true (by first | (with_reducible assumption) | assumption)
                            obtain ⟨ad127, e127, hx127_0⟩ := Kd.at_int (Kd.R_reads' HO_5.out).2.2 x7_1 p127 q127
                            cases e127
                            replace p127 := eq_true p127
                            replace q127 := eq_true q127
                            have p128 : 0 ≤ (x7_1 : Int) := of_decide_eq_true (by first | (with_reducible assumption) | assumption)
                            have q128 : x7_1 < (t105.length : Int) := of_decide_eq_true (by first | (with_reducible assumption) | assumption)
                            obtain ⟨ad128, e128, hx128_0⟩ := Kd.at_int (Kd.R_reads' HO_5.out).2.2 x7_1 p128 q128
                            obtain rfl : ad127 = ad128 := (by injection e128)
                            replace p128 := eq_true p128
                            replace q128 := eq_true q128
                            go_wp2
                            repeat (go_quiet (fail); try go_wp2)
                            go_ret
                            exact ⟨by first | rfl | (simp [errW_none, errW_some] <;> rfl) | (simp [*, errW_none, errW_some] <;> rfl), by repeat (first | (with_reducible first | exact HB.out | apply below_alloc | apply pw_below_drewN | apply below_drew1) | exact HB.out)⟩
                          · rw [if_neg c36] at H
                            have c36b0 : decide (255 < (rd t105 x7_1)) = false := decide_eq_false c36
                            clear c36
                            have H' := Aside0.mk H
                            clear H
                            have p127 : 0 ≤ (x7_1 : Int) := of_decide_eq_true (by first | (with_reducible assumption) | assumption)
                            have q127 : x7_1 < (t105.length : Int) := of_decide_eq_true (by first | (with_reducible assumption) | assumption)
                            obtain ⟨ad127, e127, hx127_0⟩ := Kd.at_int (Kd.R_reads' HO_5.out).2.2 x7_1 p127 q127
                            cases e127
                            replace p127 := eq_true p127
                            replace q127 := eq_true q127
                            have p128 : 0 ≤ (x7_1 : Int) := of_decide_eq_true (by first | (with_reducible assumption) | assumption)
                            have q128 : x7_1 < (t105.length : Int) := of_decide_eq_true (by first | (with_reducible assumption) | assumption)
                            obtain ⟨ad128, e128, hx128_0⟩ := Kd.at_int (Kd.R_reads' HO_5.out).2.2 x7_1 p128 q128
                            obtain rfl : ad127 = ad128 := (by injection e128)
                            replace p128 := eq_true p128
                            replace q128 := eq_true q128
                            go_wp2
                            repeat (go_quiet (fail); try go_wp2)
                            go_roundg k3
                            case measure => have := HK1.out; have := HJ11.out; have := HK3.out; omega
                            case rel => exact ⟨(x6_11), (wrap64 (x7_1 + 1)), (by first | rfl | (simp; done) | (simp [*]; done)), (by first | rfl | (simp; done) | (simp [*]; done)), H', ⟨by have := HK1.out; have := HJ11.out; have := HK3.out; omega⟩, ⟨by (with_reducible repeat (first | apply Kd.R_alloc | apply Kd.R_drewN | apply Kd.R_drew)); exact HO_4.out⟩, ⟨by (with_reducible repeat (first | apply Kd.R_alloc | apply Kd.R_drewN | apply Kd.R_drew)); exact HO_5.out⟩, ⟨by repeat (first | (with_reducible first | exact HB.out | apply below_alloc | apply pw_below_drewN | apply below_drew1) | exact HB.out)⟩⟩
                      · rw [if_neg c34] at H
                        exact absurd H (by simp)
                    · rw [if_neg c33] at H
                      exact absurd H (by simp)
        · rw [if_neg c11] at H
          have c11b0 : decide (x7_1 < (t102.length : Int)) = false := decide_eq_false c11
          clear c11
          by_cases c37 : t101 = true
          · subst c37
            have H1 : (some x6_1) = some r := by rw [if_pos rfl] at H; exact H
            clear H
            have H := H1
            clear H1
            obtain rfl := Option.some.inj H
            go_wp2
            repeat (go_quiet (fail); try go_wp2)
            go_ret
            exact ⟨by first | rfl | (simp [errW_none, errW_some] <;> rfl) | (simp [*, errW_none, errW_some] <;> rfl), by repeat (first | (with_reducible first | exact HB.out | apply below_alloc | apply pw_below_drewN | apply below_drew1) | exact HB.out)⟩
          · replace c37 := Bool.eq_false_iff.mpr c37
            subst c37
            have H1 : (some false) = some r := by rw [if_neg (show ¬ (false = true) by decide)] at H; exact H
            clear H
            have H := H1
            clear H1
            obtain rfl := Option.some.inj H
            go_wp2
            repeat (go_quiet (fail); try go_wp2)
            go_ret
            exact ⟨by first | rfl | (simp [errW_none, errW_some] <;> rfl) | (simp [*, errW_none, errW_some] <;> rfl), by repeat (first | (with_reducible first | exact HB.out | apply below_alloc | apply pw_below_drewN | apply below_drew1) | exact HB.out)⟩
  · rw [if_neg c5] at H
    have c5b0 : ((t105.length : Int) == (t102.length : Int)) = false := beq_eq_false_iff_ne.mpr c5
    have c5b1 : ((t105.length : Int) != (t102.length : Int)) = true := bne_iff_ne.mpr c5
    have c5b2 : (t105.length == t102.length) = false := by first | simpa using c5 | (simp at c5 ⊢; omega)
    obtain rfl := Option.some.inj H
    go_enter Try.func4, Try.ntmps4
    go_wp2_with (first | (go_at_call 8; (with_reducible refine (manteletlaw13_shown.calls k  t101 _ A2.out).mono ?_); rintro e w38 ⟨rfl, hb⟩; have n0_ := Aside0.mk (below_step (by repeat (first | (with_reducible first | exact HB.out | apply below_alloc | apply pw_below_drewN | apply below_drew1) | exact HB.out)) hb); clear HB; have HB := n0_; clear n0_; (try clear hb); (try clear hb2); (try clear hk); (try clear hi)) | (go_at_call 17; (with_reducible refine (manteletlaw13_counts.calls k _ _ l0 t102 _ ?side1 ?side2 A3.out).mono ?_); (case side1 => repeat (first | exact (Kd.C_below HR0.out HB.out) | (with_reducible refine Kd.C_alloc ?_ _) | (with_reducible refine Kd.C_drewN ?_ _) | (with_reducible refine Kd.C_drew ?_))); (case side2 => exact HC0.out); rintro e w39 ⟨v103, rfl, ho0, hb⟩; have n0_ := Aside0.mk (Kd.R_lower ho0 (below_size (by repeat (first | (with_reducible first | exact HB.out | apply below_alloc | apply pw_below_drewN | apply below_drew1) | exact HB.out)))); have n1_ := Aside0.mk (below_step (by repeat (first | (with_reducible first | exact HB.out | apply below_alloc | apply pw_below_drewN | apply below_drew1) | exact HB.out)) hb); clear HB; have HO104 := n0_; have HB := n1_; clear n0_ n1_; (try clear hb); (try clear hb2); (try clear hk); (try clear hi); (try clear ho0); obtain ⟨Ao40, co40, eo40⟩ := Kd.R_slice HO104.out; subst eo40) | (go_at_call 13; (with_reducible refine (rank_Classes.calls _ _ t102 t105 _ ?side1 ?side2 A4.out).mono ?_); (case side1 => repeat (first | exact (Kd.R_reads' HO104.out).2.2 | (with_reducible refine Kd.C_alloc ?_ _) | (with_reducible refine Kd.C_drewN ?_ _) | (with_reducible refine Kd.C_drew ?_))); (case side2 => exact (Kd.R_reads' HO104.out).2.1); rintro e w41 ⟨v106, rfl, ho0, hb⟩; have n0_ := Aside0.mk (Kd.R_below (by (with_reducible repeat (first | apply Kd.R_alloc | apply Kd.R_drewN | apply Kd.R_drew)); exact HO104.out) hb); have n1_ := Aside0.mk (Kd.R_lower ho0 (below_size (by repeat (first | (with_reducible first | exact HB.out | apply below_alloc | apply pw_below_drewN | apply below_drew1) | exact HB.out)))); have n2_ := Aside0.mk (below_step (by repeat (first | (with_reducible first | exact HB.out | apply below_alloc | apply pw_below_drewN | apply below_drew1) | exact HB.out)) hb); clear HO104; clear HB; have HO104 := n0_; have HO107 := n1_; have HB := n2_; clear n0_ n1_ n2_; (try clear hb); (try clear hb2); (try clear hk); (try clear hi); (try clear ho0); obtain ⟨Ao42, co42, eo42⟩ := Kd.R_slice HO107.out; subst eo42))
    repeat (go_quiet (first | (go_at_call 8; (with_reducible refine (manteletlaw13_shown.calls k  t101 _ A2.out).mono ?_); rintro e w38 ⟨rfl, hb⟩; have n0_ := Aside0.mk (below_step (by repeat (first | (with_reducible first | exact HB.out | apply below_alloc | apply pw_below_drewN | apply below_drew1) | exact HB.out)) hb); clear HB; have HB := n0_; clear n0_; (try clear hb); (try clear hb2); (try clear hk); (try clear hi)) | (go_at_call 17; (with_reducible refine (manteletlaw13_counts.calls k _ _ l0 t102 _ ?side1 ?side2 A3.out).mono ?_); (case side1 => repeat (first | exact (Kd.C_below HR0.out HB.out) | (with_reducible refine Kd.C_alloc ?_ _) | (with_reducible refine Kd.C_drewN ?_ _) | (with_reducible refine Kd.C_drew ?_))); (case side2 => exact HC0.out); rintro e w39 ⟨v103, rfl, ho0, hb⟩; have n0_ := Aside0.mk (Kd.R_lower ho0 (below_size (by repeat (first | (with_reducible first | exact HB.out | apply below_alloc | apply pw_below_drewN | apply below_drew1) | exact HB.out)))); have n1_ := Aside0.mk (below_step (by repeat (first | (with_reducible first | exact HB.out | apply below_alloc | apply pw_below_drewN | apply below_drew1) | exact HB.out)) hb); clear HB; have HO104 := n0_; have HB := n1_; clear n0_ n1_; (try clear hb); (try clear hb2); (try clear hk); (try clear hi); (try clear ho0); obtain ⟨Ao40, co40, eo40⟩ := Kd.R_slice HO104.out; subst eo40) | (go_at_call 13; (with_reducible refine (rank_Classes.calls _ _ t102 t105 _ ?side1 ?side2 A4.out).mono ?_); (case side1 => repeat (first | exact (Kd.R_reads' HO104.out).2.2 | (with_reducible refine Kd.C_alloc ?_ _) | (with_reducible refine Kd.C_drewN ?_ _) | (with_reducible refine Kd.C_drew ?_))); (case side2 => exact (Kd.R_reads' HO104.out).2.1); rintro e w41 ⟨v106, rfl, ho0, hb⟩; have n0_ := Aside0.mk (Kd.R_below (by (with_reducible repeat (first | apply Kd.R_alloc | apply Kd.R_drewN | apply Kd.R_drew)); exact HO104.out) hb); have n1_ := Aside0.mk (Kd.R_lower ho0 (below_size (by repeat (first | (with_reducible first | exact HB.out | apply below_alloc | apply pw_below_drewN | apply below_drew1) | exact HB.out)))); have n2_ := Aside0.mk (below_step (by repeat (first | (with_reducible first | exact HB.out | apply below_alloc | apply pw_below_drewN | apply below_drew1) | exact HB.out)) hb); clear HO104; clear HB; have HO104 := n0_; have HO107 := n1_; have HB := n2_; clear n0_ n1_ n2_; (try clear hb); (try clear hb2); (try clear hk); (try clear hi); (try clear ho0); obtain ⟨Ao42, co42, eo42⟩ := Kd.R_slice HO107.out; subst eo42)); try go_wp2_with (first | (go_at_call 8; (with_reducible refine (manteletlaw13_shown.calls k  t101 _ A2.out).mono ?_); rintro e w38 ⟨rfl, hb⟩; have n0_ := Aside0.mk (below_step (by repeat (first | (with_reducible first | exact HB.out | apply below_alloc | apply pw_below_drewN | apply below_drew1) | exact HB.out)) hb); clear HB; have HB := n0_; clear n0_; (try clear hb); (try clear hb2); (try clear hk); (try clear hi)) | (go_at_call 17; (with_reducible refine (manteletlaw13_counts.calls k _ _ l0 t102 _ ?side1 ?side2 A3.out).mono ?_); (case side1 => repeat (first | exact (Kd.C_below HR0.out HB.out) | (with_reducible refine Kd.C_alloc ?_ _) | (with_reducible refine Kd.C_drewN ?_ _) | (with_reducible refine Kd.C_drew ?_))); (case side2 => exact HC0.out); rintro e w39 ⟨v103, rfl, ho0, hb⟩; have n0_ := Aside0.mk (Kd.R_lower ho0 (below_size (by repeat (first | (with_reducible first | exact HB.out | apply below_alloc | apply pw_below_drewN | apply below_drew1) | exact HB.out)))); have n1_ := Aside0.mk (below_step (by repeat (first | (with_reducible first | exact HB.out | apply below_alloc | apply pw_below_drewN | apply below_drew1) | exact HB.out)) hb); clear HB; have HO104 := n0_; have HB := n1_; clear n0_ n1_; (try clear hb); (try clear hb2); (try clear hk); (try clear hi); (try clear ho0); obtain ⟨Ao40, co40, eo40⟩ := Kd.R_slice HO104.out; subst eo40) | (go_at_call 13; (with_reducible refine (rank_Classes.calls _ _ t102 t105 _ ?side1 ?side2 A4.out).mono ?_); (case side1 => repeat (first | exact (Kd.R_reads' HO104.out).2.2 | (with_reducible refine Kd.C_alloc ?_ _) | (with_reducible refine Kd.C_drewN ?_ _) | (with_reducible refine Kd.C_drew ?_))); (case side2 => exact (Kd.R_reads' HO104.out).2.1); rintro e w41 ⟨v106, rfl, ho0, hb⟩; have n0_ := Aside0.mk (Kd.R_below (by (with_reducible repeat (first | apply Kd.R_alloc | apply Kd.R_drewN | apply Kd.R_drew)); exact HO104.out) hb); have n1_ := Aside0.mk (Kd.R_lower ho0 (below_size (by repeat (first | (with_reducible first | exact HB.out | apply below_alloc | apply pw_below_drewN | apply below_drew1) | exact HB.out)))); have n2_ := Aside0.mk (below_step (by repeat (first | (with_reducible first | exact HB.out | apply below_alloc | apply pw_below_drewN | apply below_drew1) | exact HB.out)) hb); clear HO104; clear HB; have HO104 := n0_; have HO107 := n1_; have HB := n2_; clear n0_ n1_ n2_; (try clear hb); (try clear hb2); (try clear hk); (try clear hi); (try clear ho0); obtain ⟨Ao42, co42, eo42⟩ := Kd.R_slice HO107.out; subst eo42)))
    go_ret
    exact ⟨by first | rfl | (simp [errW_none, errW_some] <;> rfl) | (simp [*, errW_none, errW_some] <;> rfl), by repeat (first | (with_reducible first | exact HB.out | apply below_alloc | apply pw_below_drewN | apply below_drew1) | exact HB.out)⟩

/-- THE ONE PURE STATEMENT of manteletlaw13_RankOrder: yours. -/
def manteletlaw13_RankOrder.Pure : Prop := ∀ (l0 : List Int), l0.length ≤ maxLen → l0.length * 8 ≤ 140737488351232 → (∀ x ∈ l0, (Lit.int .u64 x).wf = true) → ∃ k, manteletlaw13_RankOrder.f k l0 = some true
theorem manteletlaw13_RankOrder.walk (P : manteletlaw13_RankOrder.Pure) (a0 : Option Addr) (len0 cap0 : Nat) (z0 : List Int) (w : World) (w0 : (a0 = none ∧ len0 = 0 ∧ cap0 = 0 ∧ z0 = []) ∨ ∃ x, a0 = some x ∧ len0 ≤ cap0 ∧ cap0 ≤ maxLen ∧ z0.length = cap0 ∧ (∀ i, i < z0.length → w.cell? (x.add i) = some (.int .u64 (z0.getD i 0))) ∧ ∀ n ∈ z0, (Lit.int .u64 n).wf = true) (y0 : len0 * 8 ≤ 140737488351232) :
    Calls Try.prog 4 #[.slice a0 len0 cap0] w fun e w' => e = .returned (.bool true) ∧ Below w.heap.size w w' := by
  obtain ⟨l0, rfl, hr0, hm0, hw0, hc0⟩ := ReadsInt.ofRowC w0
  obtain ⟨k, h⟩ := P l0 hm0 y0 hw0
  refine (manteletlaw13_RankOrder.calls k _ _ l0 true w (Kd.C_of_reads (d := (0 : Int)) (h1 := fun _ => rfl) hr0) hc0 h).mono ?_
  rintro e w' ⟨rfl, hd⟩
  exact ⟨rfl, hd⟩

end Go.Proofs.Ytcikngokiodabaa.PRankOrder

