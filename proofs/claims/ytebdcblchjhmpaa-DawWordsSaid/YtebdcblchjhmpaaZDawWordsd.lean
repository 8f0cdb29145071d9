/- DawWords. (The texts that the proof is made of, one behind the other: part 4 of 11.) -/
import Derived.Test.YtebdcblchjhmpaaProg
import Derived.Below
import Derived.Deep.Draws
import Derived.Deep.AppendLies
import Derived.Maps.AppendAt
import Derived.OwnWalk
import Derived.Laws.BytesArg
import Derived.Laws.MakeOwn
import Derived.Laws.OwnMore
import Derived.Deep.OwnRows
import Derived.Tactics
import Derived.Lib.ConvBytes
import Derived.Laws.Slices
import Derived.WalkKit
import Derived.KernelRfl
import Derived.RowKit3
import Derived.Deep.LoopGhost
import Derived.Deep.QuietTactic
import Derived.BigQuiet
import Derived.WideLaws
import Derived.Deep.DeepCutAuto
import Derived.Deep.CutBlock
import Derived.Deep.RegionHeld3
import Derived.Laws.Rows
import Derived.Lib.AppendStr
import Derived.ArgAppend
import Derived.Laws.IdiomCopy
import Derived.OrdersHeld
import Derived.Laws.BitsLemmas
import Derived.RowKit
import Derived.Test.YtebdcblchjhmpaaZDawWordsa
import Derived.Test.YtebdcblchjhmpaaZDawWordsb
import Derived.Test.YtebdcblchjhmpaaZDawWordsc
namespace Go.Proofs.Ytebdcblchjhmpaa.PDk
open Go.RowKit Go.Proofs.YtebdcblchjhmpaaW.PrintWords Go.Proofs.YtebdcblchjhmpaaW.PrintLast Go.Proofs.YtebdcblchjhmpaaW.PrintMore Go.Proofs.Ytebdcblchjhmpaa.K
attribute [local go_sem] max2_int min2_int max_two min_two max_three min_three max_four min_four   -- for this text's walks alone
set_option linter.unusedVariables false
set_option linter.unusedSimpArgs false

attribute [local go_sem high] eqA33
mutual
def manteletref14_Same.l0 : Nat → List (S31) → List (S31) → Int → Option (Bool)
  | 0, _, _, _ => none
  | k + 1, x0, x1, x5 => if x5 < (x0.length : Int) then (if 0 ≤ x5 then (if x5 < (x1.length : Int) then (if (((rd_T31 x0 x5).f0) != ((rd_T31 x1 x5).f0)) = true then (manteletref14_Same.j1 k x0 x1 x5 true) else (manteletref14_Same.j1 k x0 x1 x5 ((((rd_T31 x0 x5).f1).length : Int) != (((rd_T31 x1 x5).f1).length : Int)))) else (none)) else (none)) else (some true)
def manteletref14_Same.j1 : Nat → List (S31) → List (S31) → Int → Bool → Option (Bool)
  | 0, _, _, _, _ => none
  | k + 1, x0, x1, x5, x43 => if x43 = true then (some false) else (manteletref14_Same.l1 k x0 x1 x5 0)
def manteletref14_Same.l1 : Nat → List (S31) → List (S31) → Int → Int → Option (Bool)
  | 0, _, _, _, _ => none
  | k + 1, x0, x1, x5, x6 => if 0 ≤ x5 then (if x5 < (x0.length : Int) then (if x6 < (((rd_T31 x0 x5).f1).length : Int) then (if 0 ≤ x6 then (if x5 < (x1.length : Int) then (if x6 < (((rd_T31 x1 x5).f1).length : Int) then (if (!(((rd_T33 ((rd_T31 x0 x5).f1) x6).f0) == ((rd_T33 ((rd_T31 x1 x5).f1) x6).f0)) || (!(((rd_T33 ((rd_T31 x0 x5).f1) x6).f1) == ((rd_T33 ((rd_T31 x1 x5).f1) x6).f1)))) = true then (some false) else (manteletref14_Same.l1 k x0 x1 x5 (wrap64 (x6 + 1)))) else (none)) else (none)) else (none)) else (manteletref14_Same.l0 k x0 x1 (wrap64 (x5 + 1)))) else (none)) else (none)
end
def manteletref14_Same.f (k : Nat) (l0 : List (S31)) (l1 : List (S31)) : Option (Bool) := if (l0.length : Int) = (l1.length : Int) then (manteletref14_Same.l0 k l0 l1 0) else (some false)
set_option maxHeartbeats 8000000 in
set_option maxRecDepth 100000 in
theorem manteletref14_Same.calls (k : Nat) (A0 : Option Addr) (c0 : Nat) (l0 : List (S31)) (A1 : Option Addr) (c1 : Nat) (l1 : List (S31)) (r : Bool) (w : World) (hr0 : Kd.C k31 w A0 l0.length l0) (hc0 : l0.length ≤ c0) (hr1 : Kd.C k31 w A1 l1.length l1) (hc1 : l1.length ≤ c1) (h : manteletref14_Same.f k l0 l1 = some r) :
    Calls Try.prog 16 #[.slice A0 l0.length c0, .slice A1 l1.length c1] w fun e w' => e = .returned (.bool r) ∧ Drawn0 w w' := by
  have hu33 := Try.underlying33
  have HR0 := Aside0.mk hr0
  have HC0 := Aside0.mk hc0
  clear hr0 hc0
  have HR1 := Aside0.mk hr1
  have HC1 := Aside0.mk hc1
  clear hr1 hc1
  have H : (if (l0.length : Int) = (l1.length : Int) then (manteletref14_Same.l0 k l0 l1 0) else (some false)) = some r := h
  clear h
  by_cases c3 : (l0.length : Int) = (l1.length : Int)
  · rw [if_pos c3] at H
    have c3b0 : ((l0.length : Int) == (l1.length : Int)) = true := beq_iff_eq.mpr c3
    have c3b1 : ((l0.length : Int) != (l1.length : Int)) = false := bne_eq_false_iff_eq.mpr c3
    have c3b2 : (l0.length == l1.length) = true := by first | simpa using c3 | (simp at c3 ⊢; omega)
    clear c3
    have H' := Aside0.mk H
    clear H
    go_enter Try.func16, Try.ntmps16
    go_wp2
    repeat (go_quiet (fail); try go_wp2)
    go_loopg [5] k (fun kq v5 w' => ∃ (x5_1 : Int), v5 = .int .i64 x5_1 ∧ Aside0 (manteletref14_Same.l0 kq l0 l1 x5_1 = some r) ∧ Aside0 (kq ≤ k) ∧ Drawn0 w w')
    case atStart => exact ⟨(0), (by first | rfl | (simp; done) | (simp [*]; done)), H', ⟨Nat.le_refl _⟩, by repeat (first | exact Drawn0.refl _ | apply Drawn0.step)⟩
    case round =>
      clear H'
      try clear c1
      try clear p2
      try clear c3
      try clear c3b0
      try clear c3b1
      try clear c3b2
      obtain ⟨x5_1, rfl, HA, HK1, ⟨m1, rfl⟩⟩ := hrel
      cases gk with
      | zero => exact absurd HA.out (by simp [manteletref14_Same.l0])
      | succ k1 =>
        have H := HA.out
        clear HA
        simp only [manteletref14_Same.l0] at H
        by_cases c4 : x5_1 < (l0.length : Int)
        · rw [if_pos c4] at H
          have c4b0 : decide (x5_1 < (l0.length : Int)) = true := decide_eq_true c4
          clear c4
          have HC5 := Aside0.mk H
          clear H
          go_upto_region 6 with (fail)
          repeat (go_quiet (fail); go_upto_region 6 with (fail))
          go_cut [43] (fun v43 wc => ∃ (kq : Nat) (x43_4 : Bool), v43 = .bool x43_4 ∧ Aside0 (manteletref14_Same.j1 kq l0 l1 x5_1 x43_4 = some r) ∧ Aside0 (kq ≤ k1) ∧ Drawn0 w wc)
          case first =>
            have H := HC5.out
            clear HC5
            by_cases c6 : 0 ≤ x5_1
            · rw [if_pos c6] at H
              have c6b0 : decide (0 ≤ x5_1) = true := decide_eq_true c6
              clear c6
              (first | rw [c6b0] | (simp only [i64_w, i32_w]; rw [c6b0]) | skip)
              by_cases c7 : x5_1 < (l1.length : Int)
              · rw [if_pos c7] at H
                have c7b0 : decide (x5_1 < (l1.length : Int)) = true := decide_eq_true c7
                clear c7
                by_cases c8 : (((rd_T31 l0 x5_1).f0) != ((rd_T31 l1 x5_1).f0)) = true
                · rw [if_pos c8] at H
                  have c8b0 : (((rd_T31 l0 x5_1).f0) != ((rd_T31 l1 x5_1).f0)) = true := c8
                  (try (have c8b1 : decide (((rd_T31 l0 x5_1).f0) = ((rd_T31 l1 x5_1).f0)) = false := by simpa using c8))
                  (try (have c8b2 : (((rd_T31 l0 x5_1).f0) == ((rd_T31 l1 x5_1).f0)) = false := by simpa using c8))
                  (try (have c8b3 : ¬ (((rd_T31 l0 x5_1).f0) = ((rd_T31 l1 x5_1).f0)) := by simpa using c8))
                  clear c8
                  have H' := Aside0.mk H
                  clear H
                  have p127 : 0 ≤ (x5_1 : Int) := of_decide_eq_true (by first | (with_reducible assumption) | assumption)
                  have q127 : x5_1 < (l0.length : Int) := of_decide_eq_true (by first | (with_reducible assumption) | assumption)
                  obtain ⟨ad127, A127_1, c127_1, e127, hx127_0, hx127_1, hl127_1, hi127_1⟩ := at_T31 HR0.out x5_1 p127 q127
                  cases e127
                  have HR127_1 := Aside0.mk hi127_1
                  have HC127_1 := Aside0.mk hl127_1
                  clear hi127_1 hl127_1
                  replace p127 := eq_true p127
                  replace q127 := eq_true q127
                  have p128 : 0 ≤ (x5_1 : Int) := of_decide_eq_true (by first | (with_reducible assumption) | assumption)
                  have q128 : x5_1 < (l1.length : Int) := of_decide_eq_true (by first | (with_reducible assumption) | assumption)
                  obtain ⟨ad128, A128_1, c128_1, e128, hx128_0, hx128_1, hl128_1, hi128_1⟩ := at_T31 HR1.out x5_1 p128 q128
                  cases e128
                  have HR128_1 := Aside0.mk hi128_1
                  have HC128_1 := Aside0.mk hl128_1
                  clear hi128_1 hl128_1
                  replace p128 := eq_true p128
                  replace q128 := eq_true q128
                  go_wp2
                  repeat (go_quiet (fail); try go_wp2)
                  go_meet
                  case rel => exact ⟨_, (true), (by first | rfl | (simp; done) | (simp [*]; done)), H', ⟨by have := HK1.out; first | omega | exact Nat.le_refl _⟩, by repeat (first | exact Drawn0.refl _ | apply Drawn0.step)⟩
                · rw [if_neg c8] at H
                  have c8b0 : (((rd_T31 l0 x5_1).f0) != ((rd_T31 l1 x5_1).f0)) = false := by simpa using c8
                  (try (have c8b1 : decide (((rd_T31 l0 x5_1).f0) = ((rd_T31 l1 x5_1).f0)) = true := by simpa using c8))
                  (try (have c8b2 : (((rd_T31 l0 x5_1).f0) == ((rd_T31 l1 x5_1).f0)) = true := by simpa using c8))
                  clear c8
                  have H' := Aside0.mk H
                  clear H
                  have p127 : 0 ≤ (x5_1 : Int) := of_decide_eq_true (by first | (with_reducible assumption) | assumption)
                  have q127 : x5_1 < (l0.length : Int) := of_decide_eq_true (by first | (with_reducible assumption) | assumption)
                  obtain ⟨ad127, A127_1, c127_1, e127, hx127_0, hx127_1, hl127_1, hi127_1⟩ := at_T31 HR0.out x5_1 p127 q127
                  cases e127
                  have HR127_1 := Aside0.mk hi127_1
                  have HC127_1 := Aside0.mk hl127_1
                  clear hi127_1 hl127_1
                  replace p127 := eq_true p127
                  replace q127 := eq_true q127
                  have p128 : 0 ≤ (x5_1 : Int) := of_decide_eq_true (by first | (with_reducible assumption) | assumption)
                  have q128 : x5_1 < (l1.length : Int) := of_decide_eq_true (by first | (with_reducible assumption) | assumption)
                  obtain ⟨ad128, A128_1, c128_1, e128, hx128_0, hx128_1, hl128_1, hi128_1⟩ := at_T31 HR1.out x5_1 p128 q128
                  cases e128
                  have HR128_1 := Aside0.mk hi128_1
                  have HC128_1 := Aside0.mk hl128_1
                  clear hi128_1 hl128_1
                  replace p128 := eq_true p128
                  replace q128 := eq_true q128
                  have p129 : 0 ≤ (x5_1 : Int) := of_decide_eq_true (by first | (with_reducible assumption) | assumption)
                  have q129 : x5_1 < (l0.length : Int) := of_decide_eq_true (by first | (with_reducible assumption) | assumption)
                  obtain ⟨ad129, A129_1, c129_1, e129, hx129_0, hx129_1, hl129_1, hi129_1⟩ := at_T31 HR0.out x5_1 p129 q129
                  obtain rfl : ad127 = ad129 := (by injection e129)
                  have HR129_1 := Aside0.mk hi129_1
                  have HC129_1 := Aside0.mk hl129_1
                  clear hi129_1 hl129_1
                  replace p129 := eq_true p129
                  replace q129 := eq_true q129
                  have ea_ := Option.some.inj (hx127_1.symm.trans hx129_1)
                  injection ea_ with ea_ en_ ec_
                  subst ea_
                  subst ec_
                  clear en_
                  have p130 : 0 ≤ (x5_1 : Int) := of_decide_eq_true (by first | (with_reducible assumption) | assumption)
                  have q130 : x5_1 < (l1.length : Int) := of_decide_eq_true (by first | (with_reducible assumption) | assumption)
                  obtain ⟨ad130, A130_1, c130_1, e130, hx130_0, hx130_1, hl130_1, hi130_1⟩ := at_T31 HR1.out x5_1 p130 q130
                  obtain rfl : ad128 = ad130 := (by injection e130)
                  have HR130_1 := Aside0.mk hi130_1
                  have HC130_1 := Aside0.mk hl130_1
                  clear hi130_1 hl130_1
                  replace p130 := eq_true p130
                  replace q130 := eq_true q130
                  have ea_ := Option.some.inj (hx128_1.symm.trans hx130_1)
                  injection ea_ with ea_ en_ ec_
                  subst ea_
                  subst ec_
                  clear en_
                  go_wp2
                  repeat (go_quiet (fail); try go_wp2)
                  go_meet
                  case rel => exact ⟨_, (((((rd_T31 l0 x5_1).f1).length : Int) != (((rd_T31 l1 x5_1).f1).length : Int))), (by first | rfl | (simp; done) | (simp [*]; done)), H', ⟨by have := HK1.out; first | omega | exact Nat.le_refl _⟩, by repeat (first | exact Drawn0.refl _ | apply Drawn0.step)⟩
              · rw [if_neg c7] at H
                exact absurd H (by simp)
            · rw [if_neg c6] at H
              exact absurd H (by simp)
          case rest =>
            clear HC5
            try clear c1
            try clear p1
            try clear q1
            try clear hx1
            try clear p2
            try clear c3
            try clear c3b0
            try clear c3b1
            try clear c3b2
            try clear c4
            try clear c4b0
            try clear c6
            try clear c6b0
            try clear c7
            try clear c7b0
            try clear c8
            try clear c8b0
            try clear c8b1
            try clear c8b2
            try clear hx127_0
            try clear hx127_1
            try clear hx128_0
            try clear hx128_1
            try clear hx129_0
            try clear hx129_1
            try clear hx130_0
            try clear hx130_1
            try clear p127
            try clear p128
            try clear p129
            try clear p130
            try clear p2
            try clear q127
            try clear q128
            try clear q129
            try clear q130
            obtain ⟨kq, x43_4, rfl, HA, HJ4, ⟨mc4, rfl⟩⟩ := hcut
            cases kq with
            | zero => exact absurd HA.out (by simp [manteletref14_Same.j1])
            | succ kj4 =>
              have H := HA.out
              clear HA
              simp only [manteletref14_Same.j1] at H
              by_cases c9 : x43_4 = true
              · subst c9
                have H1 : (some false) = some r := by rw [if_pos rfl] at H; exact H
                clear H
                have H := H1
                clear H1
                obtain rfl := Option.some.inj H
                go_wp2
                repeat (go_quiet (fail); try go_wp2)
                go_ret
                exact ⟨by first | rfl | (simp; done) | (simp [*]; done), by repeat (first | exact Drawn0.refl _ | apply Drawn0.step)⟩
              · replace c9 := Bool.eq_false_iff.mpr c9
                subst c9
                have H1 : (manteletref14_Same.l1 kj4 l0 l1 x5_1 0) = some r := by rw [if_neg (show ¬ (false = true) by decide)] at H; exact H
                clear H
                have H := H1
                clear H1
                have H' := Aside0.mk H
                clear H
                go_wp2
                repeat (go_quiet (fail); try go_wp2)
                go_loopg [6] kj4 (fun kq v6 w' => ∃ (x6_3 : Int), v6 = .int .i64 x6_3 ∧ Aside0 (manteletref14_Same.l1 kq l0 l1 x5_1 x6_3 = some r) ∧ Aside0 (kq ≤ kj4) ∧ Drawn0 w w')
                case atStart => exact ⟨(0), (by first | rfl | (simp; done) | (simp [*]; done)), H', ⟨Nat.le_refl _⟩, by repeat (first | exact Drawn0.refl _ | apply Drawn0.step)⟩
                case round =>
                  clear H'
                  try clear c1
                  try clear p1
                  try clear q1
                  try clear hx1
                  try clear p2
                  try clear c3
                  try clear c3b0
                  try clear c3b1
                  try clear c3b2
                  try clear c4
                  try clear c4b0
                  try clear c6
                  try clear c6b0
                  try clear c7
                  try clear c7b0
                  try clear c8
                  try clear c8b0
                  try clear c8b1
                  try clear c8b2
                  try clear c9
                  try clear hx127_0
                  try clear hx127_1
                  try clear hx128_0
                  try clear hx128_1
                  try clear hx129_0
                  try clear hx129_1
                  try clear hx130_0
                  try clear hx130_1
                  try clear p1
                  try clear p127
                  try clear p128
                  try clear p129
                  try clear p130
                  try clear p2
                  try clear q1
                  try clear q127
                  try clear q128
                  try clear q129
                  try clear q130
                  obtain ⟨x6_3, rfl, HA, HK3, ⟨m3, rfl⟩⟩ := hrel
                  cases gk with
                  | zero => exact absurd HA.out (by simp [manteletref14_Same.l1])
                  | succ k3 =>
                    have H := HA.out
                    clear HA
                    simp only [manteletref14_Same.l1] at H
                    by_cases c10 : 0 ≤ x5_1
                    · rw [if_pos c10] at H
                      have c10b0 : decide (0 ≤ x5_1) = true := decide_eq_true c10
                      clear c10
                      by_cases c11 : x5_1 < (l0.length : Int)
                      · rw [if_pos c11] at H
                        have c11b0 : decide (x5_1 < (l0.length : Int)) = true := decide_eq_true c11
                        clear c11
                        by_cases c12 : x6_3 < (((rd_T31 l0 x5_1).f1).length : Int)
                        · rw [if_pos c12] at H
                          have c12b0 : decide (x6_3 < (((rd_T31 l0 x5_1).f1).length : Int)) = true := decide_eq_true c12
                          clear c12
                          by_cases c13 : 0 ≤ x6_3
                          · rw [if_pos c13] at H
                            have c13b0 : decide (0 ≤ x6_3) = true := decide_eq_true c13
                            clear c13
                            by_cases c14 : x5_1 < (l1.length : Int)
                            · rw [if_pos c14] at H
                              have c14b0 : decide (x5_1 < (l1.length : Int)) = true := decide_eq_true c14
                              clear c14
                              by_cases c15 : x6_3 < (((rd_T31 l1 x5_1).f1).length : Int)
                              · rw [if_pos c15] at H
                                have c15b0 : decide (x6_3 < (((rd_T31 l1 x5_1).f1).length : Int)) = true := decide_eq_true c15
                                clear c15
                                by_cases c16 : (!(((rd_T33 ((rd_T31 l0 x5_1).f1) x6_3).f0) == ((rd_T33 ((rd_T31 l1 x5_1).f1) x6_3).f0)) || (!(((rd_T33 ((rd_T31 l0 x5_1).f1) x6_3).f1) == ((rd_T33 ((rd_T31 l1 x5_1).f1) x6_3).f1)))) = true
                                · rw [if_pos c16] at H
                                  have c16b0 : (!(((rd_T33 ((rd_T31 l0 x5_1).f1) x6_3).f0) == ((rd_T33 ((rd_T31 l1 x5_1).f1) x6_3).f0)) || (!(((rd_T33 ((rd_T31 l0 x5_1).f1) x6_3).f1) == ((rd_T33 ((rd_T31 l1 x5_1).f1) x6_3).f1)))) = true := c16
                                  clear c16
                                  obtain rfl := Option.some.inj H
                                  have p131 : 0 ≤ (x5_1 : Int) := of_decide_eq_true (by first | (with_reducible assumption) | assumption)
                                  have q131 : x5_1 < (l0.length : Int) := of_decide_eq_true (by first | (with_reducible assumption) | assumption)
                                  obtain ⟨ad131, A131_1, c131_1, e131, hx131_0, hx131_1, hl131_1, hi131_1⟩ := at_T31 HR0.out x5_1 p131 q131
                                  cases e131
                                  have HR131_1 := Aside0.mk hi131_1
                                  have HC131_1 := Aside0.mk hl131_1
                                  clear hi131_1 hl131_1
                                  replace p131 := eq_true p131
                                  replace q131 := eq_true q131
                                  have p132 : 0 ≤ (x5_1 : Int) := of_decide_eq_true (by first | (with_reducible assumption) | assumption)
                                  have q132 : x5_1 < (l0.length : Int) := of_decide_eq_true (by first | (with_reducible assumption) | assumption)
                                  obtain ⟨ad132, A132_1, c132_1, e132, hx132_0, hx132_1, hl132_1, hi132_1⟩ := at_T31 HR0.out x5_1 p132 q132
                                  obtain rfl : ad131 = ad132 := (by injection e132)
                                  have HR132_1 := Aside0.mk hi132_1
                                  have HC132_1 := Aside0.mk hl132_1
                                  clear hi132_1 hl132_1
                                  replace p132 := eq_true p132
                                  replace q132 := eq_true q132
                                  have ea_ := Option.some.inj (hx131_1.symm.trans hx132_1)
                                  injection ea_ with ea_ en_ ec_
                                  subst ea_
                                  subst ec_
                                  clear en_
                                  have p133 : 0 ≤ (x6_3 : Int) := of_decide_eq_true (by first | (with_reducible assumption) | assumption)
                                  have q133 : x6_3 < (((rd_T31 l0 x5_1).f1).length : Int) := of_decide_eq_true (by first | (with_reducible assumption) | assumption)
                                  obtain ⟨ad133, e133, hx133_0, hx133_1⟩ := at_T33 HR132_1.out x6_3 p133 q133
                                  cases e133
                                  replace p133 := eq_true p133
                                  replace q133 := eq_true q133
                                  have p134 : 0 ≤ (x5_1 : Int) := of_decide_eq_true (by first | (with_reducible assumption) | assumption)
                                  have q134 : x5_1 < (l1.length : Int) := of_decide_eq_true (by first | (with_reducible assumption) | assumption)
                                  obtain ⟨ad134, A134_1, c134_1, e134, hx134_0, hx134_1, hl134_1, hi134_1⟩ := at_T31 HR1.out x5_1 p134 q134
                                  cases e134
                                  have HR134_1 := Aside0.mk hi134_1
                                  have HC134_1 := Aside0.mk hl134_1
                                  clear hi134_1 hl134_1
                                  replace p134 := eq_true p134
                                  replace q134 := eq_true q134
                                  have p135 : 0 ≤ (x6_3 : Int) := of_decide_eq_true (by first | (with_reducible assumption) | assumption)
                                  have q135 : x6_3 < (((rd_T31 l1 x5_1).f1).length : Int) := of_decide_eq_true (by first | (with_reducible assumption) | assumption)
                                  obtain ⟨ad135, e135, hx135_0, hx135_1⟩ := at_T33 HR134_1.out x6_3 p135 q135
                                  cases e135
                                  replace p135 := eq_true p135
                                  replace q135 := eq_true q135
                                  go_wp2
                                  repeat (go_quiet (fail); try go_wp2)
                                  go_ret
                                  exact ⟨by first | rfl | (simp; done) | (simp [*]; done), by repeat (first | exact Drawn0.refl _ | apply Drawn0.step)⟩
                                · rw [if_neg c16] at H
                                  have c16b0 : (!(((rd_T33 ((rd_T31 l0 x5_1).f1) x6_3).f0) == ((rd_T33 ((rd_T31 l1 x5_1).f1) x6_3).f0)) || (!(((rd_T33 ((rd_T31 l0 x5_1).f1) x6_3).f1) == ((rd_T33 ((rd_T31 l1 x5_1).f1) x6_3).f1)))) = false := by simpa using c16
                                  clear c16
                                  have H' := Aside0.mk H
                                  clear H
                                  have p131 : 0 ≤ (x5_1 : Int) := of_decide_eq_true (by first | (with_reducible assumption) | assumption)
                                  have q131 : x5_1 < (l0.length : Int) := of_decide_eq_true (by first | (with_reducible assumption) | assumption)
                                  obtain ⟨ad131, A131_1, c131_1, e131, hx131_0, hx131_1, hl131_1, hi131_1⟩ := at_T31 HR0.out x5_1 p131 q131
                                  cases e131
                                  have HR131_1 := Aside0.mk hi131_1
                                  have HC131_1 := Aside0.mk hl131_1
                                  clear hi131_1 hl131_1
                                  replace p131 := eq_true p131
                                  replace q131 := eq_true q131
                                  have p132 : 0 ≤ (x5_1 : Int) := of_decide_eq_true (by first | (with_reducible assumption) | assumption)
                                  have q132 : x5_1 < (l0.length : Int) := of_decide_eq_true (by first | (with_reducible assumption) | assumption)
                                  obtain ⟨ad132, A132_1, c132_1, e132, hx132_0, hx132_1, hl132_1, hi132_1⟩ := at_T31 HR0.out x5_1 p132 q132
                                  obtain rfl : ad131 = ad132 := (by injection e132)
                                  have HR132_1 := Aside0.mk hi132_1
                                  have HC132_1 := Aside0.mk hl132_1
                                  clear hi132_1 hl132_1
                                  replace p132 := eq_true p132
                                  replace q132 := eq_true q132
                                  have ea_ := Option.some.inj (hx131_1.symm.trans hx132_1)
                                  injection ea_ with ea_ en_ ec_
                                  subst ea_
                                  subst ec_
                                  clear en_
                                  have p133 : 0 ≤ (x6_3 : Int) := of_decide_eq_true (by first | (with_reducible assumption) | assumption)
                                  have q133 : x6_3 < (((rd_T31 l0 x5_1).f1).length : Int) := of_decide_eq_true (by first | (with_reducible assumption) | assumption)
                                  obtain ⟨ad133, e133, hx133_0, hx133_1⟩ := at_T33 HR132_1.out x6_3 p133 q133
                                  cases e133
                                  replace p133 := eq_true p133
                                  replace q133 := eq_true q133
                                  have p134 : 0 ≤ (x5_1 : Int) := of_decide_eq_true (by first | (with_reducible assumption) | assumption)
                                  have q134 : x5_1 < (l1.length : Int) := of_decide_eq_true (by first | (with_reducible assumption) | assumption)
                                  obtain ⟨ad134, A134_1, c134_1, e134, hx134_0, hx134_1, hl134_1, hi134_1⟩ := at_T31 HR1.out x5_1 p134 q134
                                  cases e134
                                  have HR134_1 := Aside0.mk hi134_1
                                  have HC134_1 := Aside0.mk hl134_1
                                  clear hi134_1 hl134_1
                                  replace p134 := eq_true p134
                                  replace q134 := eq_true q134
                                  have p135 : 0 ≤ (x6_3 : Int) := of_decide_eq_true (by first | (with_reducible assumption) | assumption)
                                  have q135 : x6_3 < (((rd_T31 l1 x5_1).f1).length : Int) := of_decide_eq_true (by first | (with_reducible assumption) | assumption)
                                  obtain ⟨ad135, e135, hx135_0, hx135_1⟩ := at_T33 HR134_1.out x6_3 p135 q135
                                  cases e135
                                  replace p135 := eq_true p135
                                  replace q135 := eq_true q135
                                  go_wp2
                                  repeat (go_quiet (fail); try go_wp2)
                                  go_roundg k3
                                  case measure => have := HK1.out; have := HJ4.out; have := HK3.out; omega
                                  case rel => exact ⟨(wrap64 (x6_3 + 1)), (by first | rfl | (simp; done) | (simp [*]; done)), H', ⟨by have := HK1.out; have := HJ4.out; have := HK3.out; omega⟩, by repeat (first | exact Drawn0.refl _ | apply Drawn0.step)⟩
                              · rw [if_neg c15] at H
                                exact absurd H (by simp)
                            · rw [if_neg c14] at H
                              exact absurd H (by simp)
                          · rw [if_neg c13] at H
                            exact absurd H (by simp)
                        · rw [if_neg c12] at H
                          have c12b0 : decide (x6_3 < (((rd_T31 l0 x5_1).f1).length : Int)) = false := decide_eq_false c12
                          clear c12
                          have H' := Aside0.mk H
                          clear H
                          have p131 : 0 ≤ (x5_1 : Int) := of_decide_eq_true (by first | (with_reducible assumption) | assumption)
                          have q131 : x5_1 < (l0.length : Int) := of_decide_eq_true (by first | (with_reducible assumption) | assumption)
                          obtain ⟨ad131, A131_1, c131_1, e131, hx131_0, hx131_1, hl131_1, hi131_1⟩ := at_T31 HR0.out x5_1 p131 q131
                          cases e131
                          have HR131_1 := Aside0.mk hi131_1
                          have HC131_1 := Aside0.mk hl131_1
                          clear hi131_1 hl131_1
                          replace p131 := eq_true p131
                          replace q131 := eq_true q131
                          go_wp2
                          repeat (go_quiet (fail); try go_wp2)
                          go_roundg k3
                          case measure => have := HK1.out; have := HJ4.out; have := HK3.out; omega
                          case rel => exact ⟨(wrap64 (x5_1 + 1)), (by first | rfl | (simp; done) | (simp [*]; done)), H', ⟨by have := HK1.out; have := HJ4.out; have := HK3.out; omega⟩, by repeat (first | exact Drawn0.refl _ | apply Drawn0.step)⟩
                      · rw [if_neg c11] at H
                        exact absurd H (by simp)
                    · rw [if_neg c10] at H
                      exact absurd H (by simp)
        · rw [if_neg c4] at H
          have c4b0 : decide (x5_1 < (l0.length : Int)) = false := decide_eq_false c4
          clear c4
          obtain rfl := Option.some.inj H
          go_wp2
          repeat (go_quiet (fail); try go_wp2)
          go_ret
          exact ⟨by first | rfl | (simp; done) | (simp [*]; done), by repeat (first | exact Drawn0.refl _ | apply Drawn0.step)⟩
  · rw [if_neg c3] at H
    have c3b0 : ((l0.length : Int) == (l1.length : Int)) = false := beq_eq_false_iff_ne.mpr c3
    have c3b1 : ((l0.length : Int) != (l1.length : Int)) = true := bne_iff_ne.mpr c3
    have c3b2 : (l0.length == l1.length) = false := by first | simpa using c3 | (simp at c3 ⊢; omega)
    obtain rfl := Option.some.inj H
    go_enter Try.func16, Try.ntmps16
    go_wp2
    repeat (go_quiet (fail); try go_wp2)
    go_ret
    exact ⟨by first | rfl | (simp; done) | (simp [*]; done), by repeat (first | exact Drawn0.refl _ | apply Drawn0.step)⟩

mutual
def manteletlaw14_few.l0 : Nat → List ByteArray → Int → Option (Bool)
  | 0, _, _ => none
  | k + 1, x0, x3 => if x3 < (x0.length : Int) then (manteletlaw14_few.j1 k x0 x3 (decide (x3 < 61))) else (manteletlaw14_few.j1 k x0 x3 false)
def manteletlaw14_few.j1 : Nat → List ByteArray → Int → Bool → Option (Bool)
  | 0, _, _, _ => none
  | k + 1, x0, x3, x11 => if x11 = true then (if 0 ≤ x3 then (if x3 < (x0.length : Int) then (if ((rdOf ByteArray.empty x0 x3).size : Int) > 20 then (some false) else (manteletlaw14_few.l0 k x0 (wrap64 (x3 + 1)))) else (none)) else (none)) else (some (decide ((x0.length : Int) ≤ 60)))
end
def manteletlaw14_few.f (k : Nat) (l0 : List ByteArray) : Option (Bool) := manteletlaw14_few.l0 k l0 0
set_option maxHeartbeats 8000000 in
set_option maxRecDepth 100000 in
theorem manteletlaw14_few.calls (k : Nat) (A0 : Option Addr) (c0 : Nat) (l0 : List ByteArray) (r : Bool) (w : World) (hr0 : Kd.C Kd.string w A0 l0.length l0) (hc0 : l0.length ≤ c0) (h : manteletlaw14_few.f k l0 = some r) :
    Calls Try.prog 14 #[.slice A0 l0.length c0] w fun e w' => e = .returned (.bool r) ∧ Drawn0 w w' := by
  have HR0 := Aside0.mk hr0
  have HC0 := Aside0.mk hc0
  clear hr0 hc0
  have H : (manteletlaw14_few.l0 k l0 0) = some r := h
  clear h
  have H' := Aside0.mk H
  clear H
  go_enter Try.func14, Try.ntmps14
  go_wp2
  go_loopg [3] k (fun kq v3 w' => ∃ (x3_1 : Int), v3 = .int .i64 x3_1 ∧ Aside0 (manteletlaw14_few.l0 kq l0 x3_1 = some r) ∧ Aside0 (kq ≤ k) ∧ Drawn0 w w')
  case atStart => exact ⟨(0), (by first | rfl | (simp; done) | (simp [*]; done)), H', ⟨Nat.le_refl _⟩, by repeat (first | exact Drawn0.refl _ | apply Drawn0.step)⟩
  case round =>
    clear H'
    try clear c1
    obtain ⟨x3_1, rfl, HA, HK1, ⟨m1, rfl⟩⟩ := hrel
    cases gk with
    | zero => exact absurd HA.out (by simp [manteletlaw14_few.l0])
    | succ k1 =>
      have H := HA.out
      clear HA
      simp only [manteletlaw14_few.l0] at H
      have HC2 := Aside0.mk H
      clear H
      go_upto_region 2 with (fail)
      go_cut [11] (fun v11 wc => ∃ (kq : Nat) (x11_1 : Bool), v11 = .bool x11_1 ∧ Aside0 (manteletlaw14_few.j1 kq l0 x3_1 x11_1 = some r) ∧ Aside0 (kq ≤ k1) ∧ Drawn0 w wc)
      case first =>
        have H := HC2.out
        clear HC2
        by_cases c3 : x3_1 < (l0.length : Int)
        · rw [if_pos c3] at H
          have c3b0 : decide (x3_1 < (l0.length : Int)) = true := decide_eq_true c3
          clear c3
          (first | rw [c3b0] | (simp only [i64_w, i32_w]; rw [c3b0]) | skip)
          have H' := Aside0.mk H
          clear H
          go_wp2
          go_meet
          case rel => exact ⟨_, (decide (x3_1 < 61)), (by first | rfl | (simp; done) | (simp [*]; done)), H', ⟨by have := HK1.out; first | omega | exact Nat.le_refl _⟩, by repeat (first | exact Drawn0.refl _ | apply Drawn0.step)⟩
        · rw [if_neg c3] at H
          have c3b0 : decide (x3_1 < (l0.length : Int)) = false := decide_eq_false c3
          clear c3
          (first | rw [c3b0] | (simp only [i64_w, i32_w]; rw [c3b0]) | skip)
          have H' := Aside0.mk H
          clear H
          go_wp2
          go_meet
          case rel => exact ⟨_, (false), (by first | rfl | (simp; done) | (simp [*]; done)), H', ⟨by have := HK1.out; first | omega | exact Nat.le_refl _⟩, by repeat (first | exact Drawn0.refl _ | apply Drawn0.step)⟩
      case rest =>
        clear HC2
        try clear c1
        try clear p2
        try clear c3
        try clear c3b0
        obtain ⟨kq, x11_1, rfl, HA, HJ1, ⟨mc1, rfl⟩⟩ := hcut
        cases kq with
        | zero => exact absurd HA.out (by simp [manteletlaw14_few.j1])
        | succ kj1 =>
          have H := HA.out
          clear HA
          simp only [manteletlaw14_few.j1] at H
          by_cases c4 : x11_1 = true
          · subst c4
            have H1 : (if 0 ≤ x3_1 then (if x3_1 < (l0.length : Int) then (if ((rdOf ByteArray.empty l0 x3_1).size : Int) > 20 then (some false) else (manteletlaw14_few.l0 kj1 l0 (wrap64 (x3_1 + 1)))) else (none)) else (none)) = some r := by rw [if_pos rfl] at H; exact H
            clear H
            have H := H1
            clear H1
            by_cases c5 : 0 ≤ x3_1
            · rw [if_pos c5] at H
              have c5b0 : decide (0 ≤ x3_1) = true := decide_eq_true c5
              clear c5
              by_cases c6 : x3_1 < (l0.length : Int)
              · rw [if_pos c6] at H
                have c6b0 : decide (x3_1 < (l0.length : Int)) = true := decide_eq_true c6
                clear c6
                by_cases c7 : ((rdOf ByteArray.empty l0 x3_1).size : Int) > 20
                · rw [if_pos c7] at H
                  have c7b0 : decide (20 < ((rdOf ByteArray.empty l0 x3_1).size : Int)) = true := decide_eq_true c7
                  have c7b1 : decide (20 < (rdOf ByteArray.empty l0 x3_1).size) = true := decide_eq_true (by omega)
                  clear c7
                  obtain rfl := Option.some.inj H
                  have p136 : 0 ≤ (x3_1 : Int) := of_decide_eq_true (by first | (with_reducible assumption) | assumption)
                  have q136 : x3_1 < (l0.length : Int) := of_decide_eq_true (by first | (with_reducible assumption) | assumption)
                  obtain ⟨ad136, e136, hx136_0⟩ := Kd.at_string HR0.out x3_1 p136 q136
                  cases e136
                  replace p136 := eq_true p136
                  replace q136 := eq_true q136
                  go_wp2
                  go_ret
                  exact ⟨by first | rfl | (simp; done) | (simp [*]; done), by repeat (first | exact Drawn0.refl _ | apply Drawn0.step)⟩
                · rw [if_neg c7] at H
                  have c7b0 : decide (20 < ((rdOf ByteArray.empty l0 x3_1).size : Int)) = false := decide_eq_false c7
                  have c7b1 : decide (20 < (rdOf ByteArray.empty l0 x3_1).size) = false := decide_eq_false (by omega)
                  clear c7
                  have H' := Aside0.mk H
                  clear H
                  have p136 : 0 ≤ (x3_1 : Int) := of_decide_eq_true (by first | (with_reducible assumption) | assumption)
                  have q136 : x3_1 < (l0.length : Int) := of_decide_eq_true (by first | (with_reducible assumption) | assumption)
                  obtain ⟨ad136, e136, hx136_0⟩ := Kd.at_string HR0.out x3_1 p136 q136
                  cases e136
                  replace p136 := eq_true p136
                  replace q136 := eq_true q136
                  go_wp2
                  go_roundg kj1
                  case measure => have := HK1.out; have := HJ1.out; omega
                  case rel => exact ⟨(wrap64 (x3_1 + 1)), (by first | rfl | (simp; done) | (simp [*]; done)), H', ⟨by have := HK1.out; have := HJ1.out; omega⟩, by repeat (first | exact Drawn0.refl _ | apply Drawn0.step)⟩
              · rw [if_neg c6] at H
                exact absurd H (by simp)
            · rw [if_neg c5] at H
              exact absurd H (by simp)
          · replace c4 := Bool.eq_false_iff.mpr c4
            subst c4
            have H1 : (some (decide ((l0.length : Int) ≤ 60))) = some r := by rw [if_neg (show ¬ (false = true) by decide)] at H; exact H
            clear H
            have H := H1
            clear H1
            obtain rfl := Option.some.inj H
            go_wp2
            go_ret
            exact ⟨by first | rfl | (simp; done) | (simp [*]; done), by repeat (first | exact Drawn0.refl _ | apply Drawn0.step)⟩

end Go.Proofs.Ytebdcblchjhmpaa.PDk

namespace Go.Proofs.Ytebdcblchjhmpaa.PDk
open Go.RowKit Go.Proofs.YtebdcblchjhmpaaW.PrintWords Go.Proofs.YtebdcblchjhmpaaW.PrintLast Go.Proofs.YtebdcblchjhmpaaW.PrintMore Go.Proofs.Ytebdcblchjhmpaa.K
attribute [local go_sem] max2_int min2_int max_two min_two max_three min_three max_four min_four   -- for this text's walks alone
set_option linter.unusedVariables false
set_option linter.unusedSimpArgs false

end Go.Proofs.Ytebdcblchjhmpaa.PDk

namespace Go.Proofs.Ytebdcblchjhmpaa.PDm
open Go.RowKit Go.Proofs.YtebdcblchjhmpaaW.PrintWords Go.Proofs.YtebdcblchjhmpaaW.PrintLast Go.Proofs.YtebdcblchjhmpaaW.PrintMore Go.Proofs.Ytebdcblchjhmpaa.K Go.Proofs.Ytebdcblchjhmpaa.PDk
attribute [local go_sem] max2_int min2_int max_two min_two max_three min_three max_four min_four   -- for this text's walks alone
set_option linter.unusedVariables false
set_option linter.unusedSimpArgs false



def errW : Option Int → Value
  | none => .nilIface
  | some c => .iface 0 (.int .i64 c)
theorem errW_none : errW none = .nilIface := rfl
theorem errW_some (c : Int) : errW (some c) = .iface 0 (.int .i64 c) := rfl

def rd_L4 (xs : List (List S33)) (i : Int) : (List S33) := xs.getD i.toNat ([] : List S33)
end Go.Proofs.Ytebdcblchjhmpaa.PDm

