/- DictNobody. (The texts that the proof is made of, one behind the other: part 11 of 18.) -/
import Derived.Test.YtgebhidpkcjpmaaProg
import Derived.Below
import Derived.Deep.Draws
import Derived.Deep.AppendLies
import Derived.Maps.AppendAt
import Derived.OwnWalk
import Derived.Laws.BytesArg
import Derived.Laws.MakeOwn
import Derived.Laws.OwnMore
import Derived.Deep.OwnRows
import Derived.Tactics
import Derived.Lib.ConvBytes
import Derived.Laws.Slices
import Derived.WalkKit
import Derived.KernelRfl
import Derived.RowKit3
import Derived.Deep.LoopGhost
import Derived.Deep.QuietTactic
import Derived.BigQuiet
import Derived.WideLaws
import Derived.Deep.DeepCutAuto
import Derived.Deep.CutBlock
import Derived.Deep.RegionHeld3
import Derived.Laws.Rows
import Derived.Lib.AppendStr
import Derived.ArgAppend
import Derived.Laws.IdiomCopy
import Derived.OrdersHeld
import Derived.Laws.BitsLemmas
import Derived.RowKit
import Derived.Lib.OthersKept
import Derived.WalkSmall
import Derived.Deep.RegionLaw
import Derived.BigRegion
import Derived.Test.YtgebhidpkcjpmaaZDictNobodya
import Derived.Test.YtgebhidpkcjpmaaZDictNobodyb
import Derived.Test.YtgebhidpkcjpmaaZDictNobodyc
import Derived.Test.YtgebhidpkcjpmaaZDictNobodyd
import Derived.Test.YtgebhidpkcjpmaaZDictNobodye
import Derived.Test.YtgebhidpkcjpmaaZDictNobodyf
import Derived.Test.YtgebhidpkcjpmaaZDictNobodyg
import Derived.Test.YtgebhidpkcjpmaaZDictNobodyh
import Derived.Test.YtgebhidpkcjpmaaZDictNobodyi
import Derived.Test.YtgebhidpkcjpmaaZDictNobodyj
namespace Go.Proofs.Ytgebhidpkcjpmaa.PLg
open Go.RowKit Go.Proofs.YtgebhidpkcjpmaaW.PrintWords Go.Proofs.YtgebhidpkcjpmaaW.PrintLast Go.Proofs.YtgebhidpkcjpmaaW.PrintMore Go.Proofs.Ytgebhidpkcjpmaa.K Go.Proofs.Ytgebhidpkcjpmaa.PDk Go.Proofs.Ytgebhidpkcjpmaa.PDm Go.Proofs.Ytgebhidpkcjpmaa.PFl Go.Proofs.Ytgebhidpkcjpmaa.PR13
attribute [local go_sem] max2_int min2_int max_two min_two max_three min_three max_four min_four   -- for this text's walks alone
set_option linter.unusedVariables false
set_option linter.unusedSimpArgs false

mutual
def file_longest.l0 : Nat → List (S82) → List Int → List (S82) → Int → Int → Option (Int)
  | 0, _, _, _, _, _ => none
  | k + 1, x0, x3, x11, x12, x13 => if x13 < x12 then (if 0 ≤ x13 then (if x13 < (x11.length : Int) then (file_longest.l1 k x0 x3 x13 x11 x12 x13 ((rd_T82 x11 x13).f1) (((rd_T82 x11 x13).f1).length : Int) 0) else (none)) else (none)) else (if 0 ≤ (wrap64 ((x0.length : Int) - 1)) then (if (wrap64 ((x0.length : Int) - 1)) < (x3.length : Int) then (some (rd x3 (wrap64 ((x0.length : Int) - 1)))) else (none)) else (none))
def file_longest.l1 : Nat → List (S82) → List Int → Int → List (S82) → Int → Int → List (S84) → Int → Int → Option (Int)
  | 0, _, _, _, _, _, _, _, _, _ => none
  | k + 1, x0, x3, x4, x11, x12, x13, x19, x20, x21 => if x21 < x20 then (if 0 ≤ x21 then (if x21 < (x19.length : Int) then (if 0 ≤ x4 then (if x4 < (x3.length : Int) then (if 0 ≤ ((rd_T84 x19 x21).f1) then (if ((rd_T84 x19 x21).f1) < (x3.length : Int) then (file_longest.l1 k x0 (x3.set (x4 : Int).toNat (mx (rd x3 x4) (wrap64 ((rd x3 ((rd_T84 x19 x21).f1)) + 1)))) x4 x11 x12 x13 x19 x20 (wrap64 (x21 + 1))) else (none)) else (none)) else (none)) else (none)) else (none)) else (none)) else (file_longest.l0 k x0 x3 x11 x12 (wrap64 (x13 + 1)))
end
def file_longest.f (k : Nat) (l0 : List (S82)) : Option (Int) := if 0 ≤ (l0.length : Int) then (if ((l0.length : Int) : Int).toNat ≤ 35184372088832 then (file_longest.l0 k l0 (List.replicate ((l0.length : Int) : Int).toNat 0) l0 (l0.length : Int) 0) else (none)) else (none)
def file_longest.T8 : Bool × List (List Nat × List Nat) := (true, [([], []), ([], []), ([], []), ([], []), ([2, 3], [2, 3]), ([4], [4]), ([], []), ([], []), ([7], [7]), ([6, 8], [6, 8]), ([9], [9]), ([10], [10]), ([5, 11], [5, 11]), ([0, 1, 0, 1, 2, 3, 4, 5, 6, 7, 8, 9, 10, 11, 12], [0, 1]), ([13, 12, 0, 1, 2, 3, 4, 5, 6, 7, 8, 9, 10, 11, 12], [12, 13])])
def file_longest.B8 : List Nat := [0, 0, 0, 0, 12, 28, 0, 0, 128, 448, 960, 1984, 4092, 8191, 16383]
theorem file_longest.tab8 : rtab .any (opsOf Try.f69 8) = file_longest.T8 := by kernel_rfl
theorem file_longest.bits8 : waitsOk file_longest.T8.2 file_longest.B8 = true := by kernel_rfl
set_option maxHeartbeats 8000000 in
set_option maxRecDepth 100000 in
theorem file_longest.calls (k : Nat) (A0 : Option Addr) (c0 : Nat) (l0 : List (S82)) (r : Int) (w : World) (hr0 : Kd.C k82 w A0 l0.length l0) (hc0 : l0.length ≤ c0) (h : file_longest.f k l0 = some r) :
    Calls Try.prog 69 #[.slice A0 l0.length c0] w fun e w' => e = .returned (.int .i64 r) ∧ Below w.heap.size w w' := by
  have hu82 := Try.underlying82
  have hu84 := Try.underlying84
  have HR0 := Aside0.mk hr0
  have HC0 := Aside0.mk hc0
  clear hr0 hc0
  have HB := Aside0.mk (Below.refl w.heap.size w)
  have H : (if 0 ≤ (l0.length : Int) then (if ((l0.length : Int) : Int).toNat ≤ 35184372088832 then (file_longest.l0 k l0 (List.replicate ((l0.length : Int) : Int).toNat 0) l0 (l0.length : Int) 0) else (none)) else (none)) = some r := h
  clear h
  by_cases c2 : 0 ≤ (l0.length : Int)
  · rw [if_pos c2] at H
    have c2b0 := eq_true c2
    have c2b1 : decide (0 ≤ (l0.length : Int)) = true := decide_eq_true c2
    clear c2
    by_cases c3 : ((l0.length : Int) : Int).toNat ≤ 35184372088832
    · rw [if_pos c3] at H
      have c3b0 := eq_true c3
      have c3b1 : decide (((l0.length : Int) : Int).toNat ≤ 35184372088832) = true := decide_eq_true c3
      clear c3
      obtain ⟨y101, hy101⟩ : ∃ y_ : List Int, y_ = (List.replicate ((l0.length : Int) : Int).toNat 0) := ⟨_, rfl⟩
      replace H : (file_longest.l0 k l0 y101 l0 (l0.length : Int) 0) = some r := by first | (rw [hy101]; with_reducible exact H) | (have H2_ := (Option.bind_some _ _).symm.trans H; rw [hy101]; with_reducible exact H2_) | (have H2_ := (Option.bind_some _ _).symm.trans H; with_reducible exact H2_) | with_reducible exact H | (rw [hy101]; exact H) | exact H
      have Ny101 := Aside0.mk hy101
      clear hy101
      have H' := Aside0.mk H
      clear H
      go_enter Try.func69, Try.ntmps69
      go_wp2_with (first | ((with_reducible refine gate_dst (N := 10) rfl ?_); refine Kd.R_make (Kd.int .i64) _ 3 rfl (N := 10) rfl 27 _ _ rfl (l0.length : Int) rfl rfl Try.underlying27 (.int .i64 0) 8 info3 rfl (by decide) (by omega) 0 (ok := fun _ => True) (okp := fun _ => True) rfl (fun _ hk => hk) trivial (of_decide_eq_true (by first | (with_reducible assumption) | assumption)) (Nat.le_trans (Nat.mul_le_mul_right _ (of_decide_eq_true (by first | (with_reducible assumption) | assumption) : (l0.length : Int).toNat ≤ 35184372088832)) (by omega)) (Below.refl _ _) (Nat.le_refl _) ?_; intro v102 w4 ho5 hb hg_ hnew_; clear hg_ hnew_; (first | rw [← Ny101.out] at ho5 | (simp only [Int.reduceToNat] at ho5; rw [← Ny101.out] at ho5)); have n0_ := Aside0.mk (Kd.R_lower ho5 (below_size (by repeat (first | (with_reducible first | exact HB.out | apply below_alloc | apply pw_below_drewN | apply below_drew1) | exact HB.out)))); have n1_ := Aside0.mk (below_step (by repeat (first | (with_reducible first | exact HB.out | apply below_alloc | apply pw_below_drewN | apply below_drew1) | exact HB.out)) hb); clear HB; have HO103 := n0_; have HB := n1_; clear n0_ n1_; clear hb ho5))
      go_loopg [13] k (fun kq v13 w' => ∃ (x3_1 : List Int) (x13_1 : Int), v13 = .int .i64 x13_1 ∧ Aside0 (file_longest.l0 kq l0 x3_1 l0 (l0.length : Int) x13_1 = some r) ∧ Aside0 (kq ≤ k) ∧ Aside0 (Kd.R (Kd.int .i64) 3 w' w.heap.size (fun _ => True) v102 x3_1) ∧ Aside0 (Below w.heap.size w w'))
      case atStart => exact ⟨(y101), (0), (by first | rfl | (simp; done) | (simp [*]; done)), H', ⟨Nat.le_refl _⟩, ⟨by (with_reducible repeat (first | apply Kd.R_alloc | apply Kd.R_drewN | apply Kd.R_drew)); exact HO103.out⟩, ⟨by repeat (first | (with_reducible first | exact HB.out | apply below_alloc | apply pw_below_drewN | apply below_drew1) | exact HB.out)⟩⟩
      case round =>
        clear H'
        try clear c2
        try clear c2b0
        try clear c2b1
        try clear p2
        try clear c3
        try clear c3b0
        try clear c3b1
        obtain ⟨x3_1, x13_1, rfl, HA, HK1, HO_3, HB⟩ := hrel
        cases gk with
        | zero => exact absurd HA.out (by simp [file_longest.l0])
        | succ k1 =>
          have H := HA.out
          clear HA
          simp only [file_longest.l0] at H
          by_cases c6 : x13_1 < (l0.length : Int)
          · rw [if_pos c6] at H
            have c6b0 : decide (x13_1 < (l0.length : Int)) = true := decide_eq_true c6
            clear c6
            by_cases c7 : 0 ≤ x13_1
            · rw [if_pos c7] at H
              have c7b0 : decide (0 ≤ x13_1) = true := decide_eq_true c7
              clear c7
              by_cases c8 : x13_1 < (l0.length : Int)
              · rw [if_pos c8] at H
                have c8b0 : decide (x13_1 < (l0.length : Int)) = true := decide_eq_true c8
                clear c8
                have H' := Aside0.mk H
                clear H
                have p105 : 0 ≤ (x13_1 : Int) := of_decide_eq_true (by first | (with_reducible assumption) | assumption)
                have q105 : x13_1 < (l0.length : Int) := of_decide_eq_true (by first | (with_reducible assumption) | assumption)
                obtain ⟨ad105, A105_1, c105_1, e105, hx105_0, hx105_1, hl105_1, hi105_1⟩ := at_T82 HR0.out x13_1 p105 q105
                cases e105
                replace hx105_0 := (HB.out.cell (World.block_lt_of_cell? w _ hx105_0)).trans hx105_0
                replace hx105_1 := (HB.out.cell (World.block_lt_of_cell? w _ hx105_1)).trans hx105_1
                have HR105_1 := Aside0.mk hi105_1
                have HC105_1 := Aside0.mk hl105_1
                clear hi105_1 hl105_1
                replace p105 := eq_true p105
                replace q105 := eq_true q105
                go_wp2_with (first | ((with_reducible refine gate_dst (N := 5) rfl ?_); refine box_event ?hg (N := 5) ?hd (cs := #[.bool false, .slice none 0 0]) (t := 82) ?hr ?_; (case hd => rfl); (case hg => rfl); (case hr => first | (go_simp; done) | (go_simp; rfl)); intro gb106 hg w9 hbox hb; have n0_ := Aside0.mk (Kd.R_below (by (with_reducible repeat (first | apply Kd.R_alloc | apply Kd.R_drewN | apply Kd.R_drew)); exact HO_3.out) hb); have n1_ := Aside0.mk (below_step (by repeat (first | (with_reducible first | exact HB.out | apply below_alloc | apply pw_below_drewN | apply below_drew1) | exact HB.out)) hb); have n2_ := Aside0.mk (hbox); have n3_ := Aside0.mk ((by rw [hg]; exact (below_size (by repeat (first | (with_reducible first | exact HB.out | apply below_alloc | apply pw_below_drewN | apply below_drew1) | exact HB.out))) : w.heap.size ≤ gb106)); have n4_ := Aside0.mk ((by rw [hg]; exact (below_size (by repeat (first | (with_reducible first | exact HB.out | apply below_alloc | apply pw_below_drewN | apply below_drew1) | exact HB.out))) : w.heap.size ≤ gb106)); clear HO_3; clear HB; have HO_3 := n0_; have HB := n1_; have BK106 := n2_; have GW106 := n3_; have GE106 := n4_; clear n0_ n1_ n2_ n3_ n4_; clear hb hbox hg; have hcz10_0 : w9.cell? ⟨gb106, 0, none⟩ = some (.bool false) := (blk_cell BK106.out 0).trans rfl; have hcz10_1 : w9.cell? ⟨gb106, 1, none⟩ = some (.slice none 0 0) := (blk_cell BK106.out 1).trans rfl; have hfz10_0 := blk_frozen BK106.out 0; have hfz10_1 := blk_frozen BK106.out 1))
                go_loopg [21] k1 (fun kq v21 w' => ∃ (x3_2 : List Int) (x21_2 : Int), v21 = .int .i64 x21_2 ∧ Aside0 (file_longest.l1 kq l0 x3_2 x13_1 l0 (l0.length : Int) x13_1 ((rd_T82 l0 x13_1).f1) (((rd_T82 l0 x13_1).f1).length : Int) x21_2 = some r) ∧ Aside0 (kq ≤ k1) ∧ Aside0 (Kd.R (Kd.int .i64) 3 w' w.heap.size (fun _ => True) v102 x3_2) ∧ Aside0 (w'.heap[gb106]? = some (.cells #[.bool ((rd_T82 l0 x13_1).f0), (.slice A105_1 ((rd_T82 l0 x13_1).f1).length c105_1)] 82 (0, 0))) ∧ Aside0 (Below w.heap.size w w'))
                case atStart => exact ⟨(x3_1), (0), (by first | rfl | (simp; done) | (simp [*]; done)), H', ⟨Nat.le_refl _⟩, ⟨by (with_reducible repeat (first | apply Kd.R_alloc | apply Kd.R_drewN | apply Kd.R_drew)); exact Kd.R_mono (Kd.R_far (p := ⟨gb106, 1, none⟩) (Kd.R_far (p := ⟨gb106, 0, none⟩) (Kd.R_types HO_3.out BK106.out (by decide)) (fun _ hk => hk.2) (.bool ((rd_T82 l0 x13_1).f0))) (fun _ hk => hk.2) (.slice A105_1 ((rd_T82 l0 x13_1).f1).length c105_1)) (fun _ hk => trivial)⟩, ⟨by (with_reducible repeat (first | refine blk_drewN ?_ _ | refine blk_drew ?_ | refine blk_alloc ?_ _)); refine blk_put (cs := #[.bool ((rd_T82 l0 x13_1).f0), .slice none 0 0]) ?_ 1 _ rfl; (with_reducible repeat (first | refine blk_drewN ?_ _ | refine blk_drew ?_ | refine blk_alloc ?_ _)); refine blk_put (cs := #[.bool false, .slice none 0 0]) ?_ 0 _ rfl; (with_reducible repeat (first | refine blk_drewN ?_ _ | refine blk_drew ?_ | refine blk_alloc ?_ _)); exact BK106.out⟩, ⟨by repeat (first | (with_reducible first | exact HB.out | apply below_alloc | apply pw_below_drewN | apply below_drew1 | refine below_set ?_ GE106.out) | exact HB.out)⟩⟩
                case round =>
                  clear H'
                  try clear c1
                  try clear p1
                  try clear q1
                  try clear hx1
                  try clear c2
                  try clear c2b0
                  try clear c2b1
                  try clear p2
                  try clear c3
                  try clear c3b0
                  try clear c3b1
                  try clear c6
                  try clear c6b0
                  try clear c7
                  try clear c7b0
                  try clear c8
                  try clear c8b0
                  try clear c10
                  try clear p10
                  try clear q10
                  try clear hx10
                  try clear hcz10_0
                  try clear hcz10_1
                  try clear hfz10_0
                  try clear hfz10_1
                  try clear hx105_0
                  try clear hx105_1
                  try clear p105
                  try clear p2
                  try clear q105
                  obtain ⟨x3_2, x21_2, rfl, HA, HK2, HO_3, BK106, HB⟩ := hrel
                  cases gk with
                  | zero => exact absurd HA.out (by simp [file_longest.l1])
                  | succ k2 =>
                    have H := HA.out
                    clear HA
                    simp only [file_longest.l1] at H
                    by_cases c11 : x21_2 < (((rd_T82 l0 x13_1).f1).length : Int)
                    · rw [if_pos c11] at H
                      have c11b0 : decide (x21_2 < (((rd_T82 l0 x13_1).f1).length : Int)) = true := decide_eq_true c11
                      clear c11
                      by_cases c12 : 0 ≤ x21_2
                      · rw [if_pos c12] at H
                        have c12b0 : decide (0 ≤ x21_2) = true := decide_eq_true c12
                        clear c12
                        by_cases c13 : x21_2 < (((rd_T82 l0 x13_1).f1).length : Int)
                        · rw [if_pos c13] at H
                          have c13b0 : decide (x21_2 < (((rd_T82 l0 x13_1).f1).length : Int)) = true := decide_eq_true c13
                          clear c13
                          by_cases c14 : 0 ≤ x13_1
                          · rw [if_pos c14] at H
                            have c14b0 : decide (0 ≤ x13_1) = true := decide_eq_true c14
                            clear c14
                            by_cases c15 : x13_1 < (x3_2.length : Int)
                            · rw [if_pos c15] at H
                              have c15b0 : decide (x13_1 < (x3_2.length : Int)) = true := decide_eq_true c15
                              clear c15
                              by_cases c16 : 0 ≤ ((rd_T84 ((rd_T82 l0 x13_1).f1) x21_2).f1)
                              · rw [if_pos c16] at H
                                have c16b0 : decide (0 ≤ ((rd_T84 ((rd_T82 l0 x13_1).f1) x21_2).f1)) = true := decide_eq_true c16
                                clear c16
                                by_cases c17 : ((rd_T84 ((rd_T82 l0 x13_1).f1) x21_2).f1) < (x3_2.length : Int)
                                · rw [if_pos c17] at H
                                  have c17b0 : decide (((rd_T84 ((rd_T82 l0 x13_1).f1) x21_2).f1) < (x3_2.length : Int)) = true := decide_eq_true c17
                                  clear c17
                                  obtain ⟨ji18, hji18⟩ : ∃ j_ : Int, (mx (rd x3_2 x13_1) (wrap64 ((rd x3_2 ((rd_T84 ((rd_T82 l0 x13_1).f1) x21_2).f1)) + 1))) = j_ := ⟨_, rfl⟩
                                  replace H : (file_longest.l1 k2 l0 (x3_2.set (x13_1 : Int).toNat (ji18)) x13_1 l0 (l0.length : Int) x13_1 ((rd_T82 l0 x13_1).f1) (((rd_T82 l0 x13_1).f1).length : Int) (wrap64 (x21_2 + 1))) = some r := by first | (rw [hji18] at H; exact H) | (simp only [hji18] at H ⊢; exact H)
                                  have hji18_ : (if (rd x3_2 x13_1) < (wrap64 ((rd x3_2 ((rd_T84 ((rd_T82 l0 x13_1).f1) x21_2).f1)) + 1)) then (wrap64 ((rd x3_2 ((rd_T84 ((rd_T82 l0 x13_1).f1) x21_2).f1)) + 1)) else (rd x3_2 x13_1)) = ji18 := hji18
                                  obtain ⟨y111, hy111⟩ : ∃ y_ : List Int, y_ = (x3_2.set (x13_1 : Int).toNat (ji18)) := ⟨_, rfl⟩
                                  replace H : (file_longest.l1 k2 l0 y111 x13_1 l0 (l0.length : Int) x13_1 ((rd_T82 l0 x13_1).f1) (((rd_T82 l0 x13_1).f1).length : Int) (wrap64 (x21_2 + 1))) = some r := by first | (rw [hy111]; with_reducible exact H) | (have H2_ := (Option.bind_some _ _).symm.trans H; rw [hy111]; with_reducible exact H2_) | (have H2_ := (Option.bind_some _ _).symm.trans H; with_reducible exact H2_) | with_reducible exact H | (rw [hy111]; exact H) | exact H
                                  have Ny111 := Aside0.mk hy111
                                  clear hy111
                                  have H' := Aside0.mk H
                                  clear H
                                  have p107 : 0 ≤ (x21_2 : Int) := of_decide_eq_true (by first | (with_reducible assumption) | assumption)
                                  have q107 : x21_2 < (((rd_T82 l0 x13_1).f1).length : Int) := of_decide_eq_true (by first | (with_reducible assumption) | assumption)
                                  obtain ⟨ad107, e107, hx107_0, hx107_1⟩ := at_T84 HR105_1.out x21_2 p107 q107
                                  cases e107
                                  replace hx107_0 := (HB.out.cell (World.block_lt_of_cell? w _ hx107_0)).trans hx107_0
                                  replace hx107_1 := (HB.out.cell (World.block_lt_of_cell? w _ hx107_1)).trans hx107_1
                                  replace p107 := eq_true p107
                                  replace q107 := eq_true q107
                                  try go_wp2_with (first | ((with_reducible refine gate_dst (N := 7) rfl ?_); refine box_event ?hg (N := 7) ?hd (cs := #[.int .u8 0, .int .i64 0]) (t := 84) ?hr ?_; (case hd => rfl); (case hg => rfl); (case hr => first | (go_simp; done) | (go_simp; rfl)); intro gb108 hg w20 hbox hb; have n0_ := Aside0.mk (Kd.R_below (by (with_reducible repeat (first | apply Kd.R_alloc | apply Kd.R_drewN | apply Kd.R_drew)); exact HO_3.out) hb); have n1_ := Aside0.mk (blk_below (g := gb106) (o := .cells #[.bool ((rd_T82 l0 x13_1).f0), .slice (some ad107) ((rd_T82 l0 x13_1).f1).length c105_1] 82 (0, 0)) (by (with_reducible repeat (first | refine blk_drewN ?_ _ | refine blk_drew ?_ | refine blk_alloc ?_ _)); exact BK106.out) hb); have n2_ := Aside0.mk (below_step (by repeat (first | (with_reducible first | exact HB.out | apply below_alloc | apply pw_below_drewN | apply below_drew1 | refine below_set ?_ GE106.out) | exact HB.out)) hb); have n3_ := Aside0.mk (hbox); have n4_ := Aside0.mk ((by rw [hg]; exact (below_size (by repeat (first | (with_reducible first | exact HB.out | apply below_alloc | apply pw_below_drewN | apply below_drew1 | refine below_set ?_ GE106.out) | exact HB.out))) : w.heap.size ≤ gb108)); have n5_ := Aside0.mk ((by rw [hg]; exact (below_size (by repeat (first | (with_reducible first | exact HB.out | apply below_alloc | apply pw_below_drewN | apply below_drew1 | refine below_set ?_ GE106.out) | exact HB.out))) : w.heap.size ≤ gb108)); have n6_ := Aside0.mk ((by rw [hg]; exact Nat.ne_of_lt (blk_lt (g := gb106) (o := .cells #[.bool ((rd_T82 l0 x13_1).f0), .slice (some ad107) ((rd_T82 l0 x13_1).f1).length c105_1] 82 (0, 0)) (by (with_reducible repeat (first | refine blk_drewN ?_ _ | refine blk_drew ?_ | refine blk_alloc ?_ _)); exact BK106.out)) : gb106 ≠ gb108)); have n7_ := Aside0.mk ((by rw [hg]; exact Nat.ne_of_gt (blk_lt (g := gb106) (o := .cells #[.bool ((rd_T82 l0 x13_1).f0), .slice (some ad107) ((rd_T82 l0 x13_1).f1).length c105_1] 82 (0, 0)) (by (with_reducible repeat (first | refine blk_drewN ?_ _ | refine blk_drew ?_ | refine blk_alloc ?_ _)); exact BK106.out)) : gb108 ≠ gb106)); clear HO_3; clear BK106; clear HB; have HO_3 := n0_; have BK106 := n1_; have HB := n2_; have BK108 := n3_; have GW108 := n4_; have GE108 := n5_; have NB106_108 := n6_; have NB108_106 := n7_; clear n0_ n1_ n2_ n3_ n4_ n5_ n6_ n7_; clear hb hbox hg; have hnb21 := NB108_106.out; have hnc21 := NB106_108.out; have hcz22_0 : w20.cell? ⟨gb108, 0, none⟩ = some (.int .u8 0) := (blk_cell BK108.out 0).trans rfl; have hcz22_1 : w20.cell? ⟨gb108, 1, none⟩ = some (.int .i64 0) := (blk_cell BK108.out 1).trans rfl; have hfz22_0 := blk_frozen BK108.out 0; have hfz22_1 := blk_frozen BK108.out 1))
                                  have n0_ : Aside0 (Kd.R (Kd.int .i64) 3 ((w20.setCell ⟨gb108, 0, none⟩ (.int .u8 ((rd_T84 ((rd_T82 l0 x13_1).f1) x21_2).f0))).setCell ⟨gb108, 1, none⟩ (.int .i64 ((rd_T84 ((rd_T82 l0 x13_1).f1) x21_2).f1))) w.heap.size (fun _ => True) v102 x3_2) := ⟨by (with_reducible repeat (first | apply Kd.R_alloc | apply Kd.R_drewN | apply Kd.R_drew)); exact Kd.R_mono (Kd.R_far (p := ⟨gb108, 1, none⟩) (Kd.R_far (p := ⟨gb108, 0, none⟩) (Kd.R_types HO_3.out BK108.out (by decide)) (fun _ hk => hk.2) (.int .u8 ((rd_T84 ((rd_T82 l0 x13_1).f1) x21_2).f0))) (fun _ hk => hk.2) (.int .i64 ((rd_T84 ((rd_T82 l0 x13_1).f1) x21_2).f1))) (fun _ hk => trivial)⟩
                                  have n1_ : Aside0 (((w20.setCell ⟨gb108, 0, none⟩ (.int .u8 ((rd_T84 ((rd_T82 l0 x13_1).f1) x21_2).f0))).setCell ⟨gb108, 1, none⟩ (.int .i64 ((rd_T84 ((rd_T82 l0 x13_1).f1) x21_2).f1))).heap[gb106]? = some (.cells #[.bool ((rd_T82 l0 x13_1).f0), .slice (some ad107) ((rd_T82 l0 x13_1).f1).length c105_1] 82 (0, 0))) := ⟨by (with_reducible repeat (first | refine blk_drewN ?_ _ | refine blk_drew ?_ | refine blk_alloc ?_ _)); refine blk_far ?_ NB106_108.out _; (with_reducible repeat (first | refine blk_drewN ?_ _ | refine blk_drew ?_ | refine blk_alloc ?_ _)); refine blk_far ?_ NB106_108.out _; (with_reducible repeat (first | refine blk_drewN ?_ _ | refine blk_drew ?_ | refine blk_alloc ?_ _)); exact BK106.out⟩
                                  have n2_ : Aside0 (((w20.setCell ⟨gb108, 0, none⟩ (.int .u8 ((rd_T84 ((rd_T82 l0 x13_1).f1) x21_2).f0))).setCell ⟨gb108, 1, none⟩ (.int .i64 ((rd_T84 ((rd_T82 l0 x13_1).f1) x21_2).f1))).heap[gb108]? = some (.cells #[.int .u8 ((rd_T84 ((rd_T82 l0 x13_1).f1) x21_2).f0), .int .i64 ((rd_T84 ((rd_T82 l0 x13_1).f1) x21_2).f1)] 84 (0, 0))) := ⟨by (with_reducible repeat (first | refine blk_drewN ?_ _ | refine blk_drew ?_ | refine blk_alloc ?_ _)); refine blk_put (cs := #[.int .u8 ((rd_T84 ((rd_T82 l0 x13_1).f1) x21_2).f0), .int .i64 0]) ?_ 1 _ rfl; (with_reducible repeat (first | refine blk_drewN ?_ _ | refine blk_drew ?_ | refine blk_alloc ?_ _)); refine blk_put (cs := #[.int .u8 0, .int .i64 0]) ?_ 0 _ rfl; (with_reducible repeat (first | refine blk_drewN ?_ _ | refine blk_drew ?_ | refine blk_alloc ?_ _)); exact BK108.out⟩
                                  have n3_ : Aside0 (Below w.heap.size w ((w20.setCell ⟨gb108, 0, none⟩ (.int .u8 ((rd_T84 ((rd_T82 l0 x13_1).f1) x21_2).f0))).setCell ⟨gb108, 1, none⟩ (.int .i64 ((rd_T84 ((rd_T82 l0 x13_1).f1) x21_2).f1)))) := ⟨by repeat (first | (with_reducible first | exact HB.out | apply below_alloc | apply pw_below_drewN | apply below_drew1 | refine below_set ?_ GE106.out | refine below_set ?_ GE108.out) | exact HB.out)⟩
                                  (try clear HO_3)
                                  (try clear BK106)
                                  (try clear BK108)
                                  (try clear HB)
                                  generalize ((w20.setCell ⟨gb108, 0, none⟩ (.int .u8 ((rd_T84 ((rd_T82 l0 x13_1).f1) x21_2).f0))).setCell ⟨gb108, 1, none⟩ (.int .i64 ((rd_T84 ((rd_T82 l0 x13_1).f1) x21_2).f1))) = w23 at n0_ n1_ n2_ n3_ ⊢
                                  have HO_3 := n0_
                                  have BK106 := n1_
                                  have BK108 := n2_
                                  have HB := n3_
                                  clear n0_ n1_ n2_ n3_
                                  have n0_ := Aside0.mk (Kd.R_drew HO_3.out)
                                  have n1_ := Aside0.mk (blk_drew BK106.out)
                                  have n2_ := Aside0.mk (blk_drew BK108.out)
                                  have n3_ := Aside0.mk (below_drew1 HB.out)
                                  clear HO_3
                                  clear BK106
                                  clear BK108
                                  clear HB
                                  have HO_3 := n0_
                                  have BK106 := n1_
                                  have BK108 := n2_
                                  have HB := n3_
                                  clear n0_ n1_ n2_ n3_
                                  obtain ⟨Ao25, co25, eo25⟩ := Kd.R_slice HO_3.out
                                  (first | subst eo25 | (injection eo25 with f1_ f2_ f3_; have f4_ := f1_.symm; have f5_ := f3_.symm; clear f1_ f2_ f3_; subst f4_; subst f5_))
                                  have p109 : 0 ≤ (x13_1 : Int) := of_decide_eq_true (by first | (with_reducible assumption) | assumption)
                                  have q109 : x13_1 < (x3_2.length : Int) := of_decide_eq_true (by first | (with_reducible assumption) | assumption)
                                  obtain ⟨ad109, e109, hx109_0⟩ := Kd.at_int (Kd.R_reads' HO_3.out).2.2 x13_1 p109 q109
                                  cases e109
                                  replace p109 := eq_true p109
                                  replace q109 := eq_true q109
                                  have p110 : 0 ≤ (((rd_T84 ((rd_T82 l0 x13_1).f1) x21_2).f1) : Int) := of_decide_eq_true (by first | (with_reducible assumption) | assumption)
                                  have q110 : ((rd_T84 ((rd_T82 l0 x13_1).f1) x21_2).f1) < (x3_2.length : Int) := of_decide_eq_true (by first | (with_reducible assumption) | assumption)
                                  obtain ⟨ad110, e110, hx110_0⟩ := Kd.at_int (Kd.R_reads' HO_3.out).2.2 ((rd_T84 ((rd_T82 l0 x13_1).f1) x21_2).f1) p110 q110
                                  obtain rfl : ad109 = ad110 := (by injection e110)
                                  replace p110 := eq_true p110
                                  replace q110 := eq_true q110
                                  have p19 : 0 ≤ (x13_1 : Int) := of_decide_eq_true (by first | (with_reducible assumption) | assumption)
                                  have q19 : (x13_1 : Int) < ((x3_2.length : Int) : Int) := of_decide_eq_true (by first | (with_reducible assumption) | assumption)
                                  obtain ⟨go19, co19, eo19, gb19, gl19, cl19, HG19⟩ := Kd.R_form HO_3.out (by omega)
                                  (first | cases eo19 | (injection eo19 with ea_ en_ ec_; (first | subst ea_ | (injection ea_ with ea_; subst ea_)); subst ec_; clear en_))
                                  have GB19 := Aside0.mk gb19
                                  have GG19 := Aside0.mk HG19
                                  clear gb19 gl19 HG19
                                  (first | simp only [add_plain] at hx109_0 | skip)
                                  (first | simp only [add_plain] at hx110_0 | skip)
                                  obtain ⟨hx19_0, hf19_0⟩ := Kd.R_celln 0 HO_3.out (x13_1 : Int) p19 q19
                                  replace p19 := eq_true p19
                                  replace q19 := eq_true q19
                                  have HP26 := Kd.R_putn HO_3.out (x13_1 : Int) ji18
                                  rw [← Ny111.out] at HP26
                                  have HQ26 := Aside0.mk HP26
                                  clear HP26
                                  refine start_ (n := 15) (S := fun w' => w'.cell? ⟨gb108, 0, none⟩ = some (.int .u8 ((rd_T84 ((rd_T82 l0 x13_1).f1) x21_2).f0)) ∧ w'.cell? ⟨gb108, 1, none⟩ = some (.int .i64 ((rd_T84 ((rd_T82 l0 x13_1).f1) x21_2).f1)) ∧ w'.cell? ⟨go19, (x13_1).toNat, none⟩ = some (.int .i64 (rd x3_2 x13_1)) ∧ w'.cell? ⟨go19, (((rd_T84 ((rd_T82 l0 x13_1).f1) x21_2).f1)).toNat, none⟩ = some (.int .i64 (rd x3_2 ((rd_T84 ((rd_T82 l0 x13_1).f1) x21_2).f1)))) (ds := [14]) #[false, false, false, false, false, false, false, false, false, false, false, false, false, false, false] (by kernel_rfl) rfl rfl ⟨(blk_cell BK108.out 0).trans rfl, (blk_cell BK108.out 1).trans rfl, hx109_0, hx110_0⟩ (fun hHeld => ?_); refine with_tabW file_longest.tab8 file_longest.bits8 (fun HT_ HW_ => ?_)
                                  generalize w23.drew = w24 at HO_3 BK106 BK108 HB GG19 HQ26 hf19_0 hx109_0 hx110_0 hx19_0 hHeld ⊢
                                  refine pure_ (i := 0) (N := some 25) (v := ?_) (a' := ?_) #[true, false, false, false, false, false, false, false, false, false, false, false, false, false, false] rfl rfl (any_of HT_.out (by kernel_rfl)) (fun _ _ _ h => h) (Or.inl ⟨by rfl, ?_⟩) ?_ ?_
                                  rotate_left
                                  · intro w'
                                    go_simp
                                    with_reducible rfl
                                  rotate_left
                                  · simp only [Act.put, List.setIfInBounds_toArray, List.set_cons_zero, List.set_cons_succ, i64_w, i32_w]
                                    rfl
                                  refine pure_ (i := 1) (N := some 26) (v := ?_) (a' := ?_) #[true, true, false, false, false, false, false, false, false, false, false, false, false, false, false] rfl rfl (any_of HT_.out (by kernel_rfl)) (fun _ _ _ h => h) (Or.inl ⟨by rfl, ?_⟩) ?_ ?_
                                  rotate_left
                                  · intro w'
                                    go_simp
                                    with_reducible rfl
                                  rotate_left
                                  · simp only [Act.put, List.setIfInBounds_toArray, List.set_cons_zero, List.set_cons_succ, i64_w, i32_w]
                                    rfl
                                  refine pure_ (i := 2) (N := some 27) (v := ?_) (a' := ?_) #[true, true, true, false, false, false, false, false, false, false, false, false, false, false, false] rfl rfl (any_of HT_.out (by kernel_rfl)) (fun _ _ _ h => h) (Or.inl ⟨by rfl, ?_⟩) ?_ ?_
                                  rotate_left
                                  · intro w'
                                    go_simp
                                    with_reducible rfl
                                  rotate_left
                                  · simp only [Act.put, List.setIfInBounds_toArray, List.set_cons_zero, List.set_cons_succ, i64_w, i32_w]
                                    rfl
                                  refine pure_ (i := 3) (N := some 28) (v := ?_) (a' := ?_) #[true, true, true, true, false, false, false, false, false, false, false, false, false, false, false] rfl rfl (any_of HT_.out (by kernel_rfl)) (fun _ _ _ h => h) (Or.inl ⟨by rfl, ?_⟩) ?_ ?_
                                  rotate_left
                                  · intro w'
                                    go_simp
                                    with_reducible rfl
                                  rotate_left
                                  · simp only [Act.put, List.setIfInBounds_toArray, List.set_cons_zero, List.set_cons_succ, i64_w, i32_w]
                                    rfl
                                  refine pure_ (i := 4) (N := some 29) (v := ?_) (a' := ?_) #[true, true, true, true, true, false, false, false, false, false, false, false, false, false, false] rfl rfl (any_of HT_.out (by kernel_rfl)) (fun _ _ _ h => h) (Or.inl ⟨by rfl, ?_⟩) ?_ ?_
                                  rotate_left
                                  · intro w'
                                    go_simp
                                    with_reducible rfl
                                  rotate_left
                                  · simp only [Act.put, List.setIfInBounds_toArray, List.set_cons_zero, List.set_cons_succ, i64_w, i32_w]
                                    rfl
                                  refine pure_ (i := 6) (N := some 31) (v := ?_) (a' := ?_) #[true, true, true, true, true, false, true, false, false, false, false, false, false, false, false] rfl rfl (any_of HT_.out (by kernel_rfl)) (fun _ _ _ h => h) (Or.inl ⟨by rfl, ?_⟩) ?_ ?_
                                  rotate_left
                                  · intro w'
                                    go_simp
                                    with_reducible rfl
                                  rotate_left
                                  · simp only [Act.put, List.setIfInBounds_toArray, List.set_cons_zero, List.set_cons_succ, i64_w, i32_w]
                                    rfl
                                  refine pure_ (i := 7) (N := some 32) (v := ?_) (a' := ?_) #[true, true, true, true, true, false, true, true, false, false, false, false, false, false, false] rfl rfl (any_of HT_.out (by kernel_rfl)) (fun _ _ _ h => h) (Or.inl ⟨by rfl, ?_⟩) ?_ ?_
                                  rotate_left
                                  · intro w'
                                    go_simp
                                    with_reducible rfl
                                  rotate_left
                                  · simp only [Act.put, List.setIfInBounds_toArray, List.set_cons_zero, List.set_cons_succ, i64_w, i32_w]
                                    rfl
                                  refine take_ (i := 5) (N := some 30) (v := ?_) (a' := ?_) #[true, true, true, true, true, true, true, true, false, false, false, false, false, false, false] rfl rfl (take_ofW HT_.out HW_.out (by kernel_rfl)) (fun _ _ _ h => h) (Or.inl ⟨by rfl, ?_⟩) hHeld ?_ ?_
                                  rotate_left
                                  · rintro w' ⟨s0, s1, s2, s3⟩
                                    go_simp
                                    with_reducible rfl
                                  rotate_left
                                  · simp only [Act.put, List.setIfInBounds_toArray, List.set_cons_zero, List.set_cons_succ, i64_w, i32_w]
                                    rfl
                                  refine take_ (i := 8) (N := some 33) (v := ?_) (a' := ?_) #[true, true, true, true, true, true, true, true, true, false, false, false, false, false, false] rfl rfl (take_ofW HT_.out HW_.out (by kernel_rfl)) (fun _ _ _ h => h) (Or.inl ⟨by rfl, ?_⟩) hHeld ?_ ?_
                                  rotate_left
                                  · rintro w' ⟨s0, s1, s2, s3⟩
                                    go_simp
                                    with_reducible rfl
                                  rotate_left
                                  · simp only [Act.put, List.setIfInBounds_toArray, List.set_cons_zero, List.set_cons_succ, i64_w, i32_w]
                                    rfl
                                  refine pure_ (i := 9) (N := some 34) (v := ?_) (a' := ?_) #[true, true, true, true, true, true, true, true, true, true, false, false, false, false, false] rfl rfl (any_of HT_.out (by kernel_rfl)) (fun _ _ _ h => h) (Or.inl ⟨by rfl, ?_⟩) ?_ ?_
                                  rotate_left
                                  · intro w'
                                    go_simp
                                    with_reducible rfl
                                  rotate_left
                                  · simp only [Act.put, List.setIfInBounds_toArray, List.set_cons_zero, List.set_cons_succ, i64_w, i32_w]
                                    rfl
                                  refine take_ (i := 10) (N := some 35) (v := ?_) (a' := ?_) #[true, true, true, true, true, true, true, true, true, true, true, false, false, false, false] rfl rfl (take_ofW HT_.out HW_.out (by kernel_rfl)) (fun _ _ _ h => h) (Or.inl ⟨by rfl, ?_⟩) hHeld ?_ ?_
                                  rotate_left
                                  · rintro w' ⟨s0, s1, s2, s3⟩
                                    go_simp
                                    with_reducible rfl
                                  rotate_left
                                  · simp only [Act.put, List.setIfInBounds_toArray, List.set_cons_zero, List.set_cons_succ, i64_w, i32_w]
                                    rfl
                                  refine pure_ (i := 11) (N := some 36) (v := ?_) (a' := ?_) #[true, true, true, true, true, true, true, true, true, true, true, true, false, false, false] rfl rfl (any_of HT_.out (by kernel_rfl)) (fun _ _ _ h => h) (Or.inl ⟨by rfl, ?_⟩) ?_ ?_
                                  rotate_left
                                  · intro w'
                                    go_simp
                                    with_reducible rfl
                                  rotate_left
                                  · simp only [Act.put, List.setIfInBounds_toArray, List.set_cons_zero, List.set_cons_succ, i64_w, i32_w]
                                    rfl
                                  refine pure_ (i := 12) (N := some 37) (v := ?_) (a' := ?_) #[true, true, true, true, true, true, true, true, true, true, true, true, true, false, false] rfl rfl (any_of HT_.out (by kernel_rfl)) (fun _ _ _ h => h) (Or.inl ⟨by rfl, ?_⟩) ?_ ?_
                                  rotate_left
                                  · intro w'
                                    go_simp
                                    with_reducible rfl
                                  rotate_left
                                  · simp only [Act.put, List.setIfInBounds_toArray, List.set_cons_zero, List.set_cons_succ, i64_w, i32_w]
                                    rfl
                                  refine pure_ (i := 13) (N := some 38) (v := ?_) (a' := ?_) #[true, true, true, true, true, true, true, true, true, true, true, true, true, true, false] rfl rfl (any_of HT_.out (by kernel_rfl)) (fun _ _ _ h => h) (Or.inl ⟨by rfl, ?_⟩) ?_ ?_
                                  rotate_left
                                  · intro w'
                                    go_simp
                                    with_reducible rfl
                                  rotate_left
                                  · simp only [Act.put, List.setIfInBounds_toArray, List.set_cons_zero, List.set_cons_succ, i64_w, i32_w]
                                    rfl
                                  refine last_ (i := 14) (N := none) #[true, true, true, true, true, true, true, true, true, true, true, true, true, true, true] rfl rfl (one_of HT_.out (by kernel_rfl)) (by decide) (fun K hK => ?_)
                                  refine skip_ (w1 := ?_) (by rfl) rfl ?_ ?_
                                  rotate_left
                                  · go_simp
                                    rfl
                                  refine hK.out _ _ ?_
                                  clear hK K
                                  refine done_ (done_of HT_.out (by kernel_rfl)) ?_
                                  try go_wp2
                                  go_roundg k2
                                  case measure => have := HK1.out; have := HK2.out; omega
                                  case rel => exact ⟨(y111), (wrap64 (x21_2 + 1)), (by first | rfl | (simp; done) | (simp [*]; done)), H', ⟨by have := HK1.out; have := HK2.out; omega⟩, ⟨by (with_reducible repeat (first | apply Kd.R_alloc | apply Kd.R_drewN | apply Kd.R_drew)); exact HQ26.out⟩, ⟨by (with_reducible repeat (first | refine blk_drewN ?_ _ | refine blk_drew ?_ | refine blk_alloc ?_ _)); refine blk_far ?_ (by have h_ := Kd.R_ne HO_3.out BK106.out (by decide); intro e_; exact h_ (by rw [e_]; rfl)) _; (with_reducible repeat (first | refine blk_drewN ?_ _ | refine blk_drew ?_ | refine blk_alloc ?_ _)); exact BK106.out⟩, ⟨by repeat (first | (with_reducible first | exact HB.out | apply below_alloc | apply pw_below_drewN | apply below_drew1 | refine below_set ?_ GB19.out | refine below_set ?_ GE106.out | refine below_set ?_ GE108.out) | exact HB.out)⟩⟩
                                · rw [if_neg c17] at H
                                  exact absurd H (by simp)
                              · rw [if_neg c16] at H
                                exact absurd H (by simp)
                            · rw [if_neg c15] at H
                              exact absurd H (by simp)
                          · rw [if_neg c14] at H
                            exact absurd H (by simp)
                        · rw [if_neg c13] at H
                          exact absurd H (by simp)
                      · rw [if_neg c12] at H
                        exact absurd H (by simp)
                    · rw [if_neg c11] at H
                      have c11b0 : decide (x21_2 < (((rd_T82 l0 x13_1).f1).length : Int)) = false := decide_eq_false c11
                      clear c11
                      have H' := Aside0.mk H
                      clear H
                      go_wp2
                      go_roundg k2
                      case measure => have := HK1.out; have := HK2.out; omega
                      case rel => exact ⟨(x3_2), (wrap64 (x13_1 + 1)), (by first | rfl | (simp; done) | (simp [*]; done)), H', ⟨by have := HK1.out; have := HK2.out; omega⟩, ⟨by (with_reducible repeat (first | apply Kd.R_alloc | apply Kd.R_drewN | apply Kd.R_drew)); exact HO_3.out⟩, ⟨by repeat (first | (with_reducible first | exact HB.out | apply below_alloc | apply pw_below_drewN | apply below_drew1 | refine below_set ?_ GE106.out) | exact HB.out)⟩⟩
              · rw [if_neg c8] at H
                exact absurd H (by simp)
            · rw [if_neg c7] at H
              exact absurd H (by simp)
          · rw [if_neg c6] at H
            have c6b0 : decide (x13_1 < (l0.length : Int)) = false := decide_eq_false c6
            clear c6
            obtain ⟨ji27, hji27⟩ : ∃ j_ : Int, (wrap64 ((l0.length : Int) - 1)) = j_ := ⟨_, rfl⟩
            replace H : (if 0 ≤ (ji27) then (if (ji27) < (x3_1.length : Int) then (some (rd x3_1 (ji27))) else (none)) else (none)) = some r := by first | (rw [hji27] at H; exact H) | (simp only [hji27] at H ⊢; exact H)
            have hji27w : (IntKind.i64.wrap ((l0.length : Int) - 1)) = ji27 := (i64_w _).trans hji27
            by_cases c28 : 0 ≤ (ji27)
            · rw [if_pos c28] at H
              have c28b0 : decide (0 ≤ (ji27)) = true := decide_eq_true c28
              clear c28
              by_cases c29 : (ji27) < (x3_1.length : Int)
              · rw [if_pos c29] at H
                have c29b0 : decide ((ji27) < (x3_1.length : Int)) = true := decide_eq_true c29
                clear c29
                obtain rfl := Option.some.inj H
                obtain ⟨Ao30, co30, eo30⟩ := Kd.R_slice HO_3.out
                subst eo30
                have p104 : 0 ≤ ((ji27) : Int) := of_decide_eq_true (by first | (with_reducible assumption) | assumption)
                have q104 : (ji27) < (x3_1.length : Int) := of_decide_eq_true (by first | (with_reducible assumption) | assumption)
                obtain ⟨ad104, e104, hx104_0⟩ := Kd.at_int (Kd.R_reads' HO_3.out).2.2 (ji27) p104 q104
                cases e104
                replace p104 := eq_true p104
                replace q104 := eq_true q104
                go_wp2
                go_ret
                exact ⟨by first | rfl | (simp [errW_none, errW_some] <;> rfl) | (simp only [← hji27]; first | rfl | (simp [errW_none, errW_some] <;> rfl)) | (simp [*, errW_none, errW_some] <;> rfl), by repeat (first | (with_reducible first | exact HB.out | apply below_alloc | apply pw_below_drewN | apply below_drew1) | exact HB.out)⟩
              · rw [if_neg c29] at H
                exact absurd H (by simp)
            · rw [if_neg c28] at H
              exact absurd H (by simp)
    · rw [if_neg c3] at H
      exact absurd H (by simp)
  · rw [if_neg c2] at H
    exact absurd H (by simp)

end Go.Proofs.Ytgebhidpkcjpmaa.PLg

namespace Go.Proofs.Ytgebhidpkcjpmaa.PLg
open Go.RowKit Go.Proofs.YtgebhidpkcjpmaaW.PrintWords Go.Proofs.YtgebhidpkcjpmaaW.PrintLast Go.Proofs.YtgebhidpkcjpmaaW.PrintMore Go.Proofs.Ytgebhidpkcjpmaa.K Go.Proofs.Ytgebhidpkcjpmaa.PDk Go.Proofs.Ytgebhidpkcjpmaa.PDm Go.Proofs.Ytgebhidpkcjpmaa.PFl Go.Proofs.Ytgebhidpkcjpmaa.PR13
attribute [local go_sem] max2_int min2_int max_two min_two max_three min_three max_four min_four   -- for this text's walks alone
set_option linter.unusedVariables false
set_option linter.unusedSimpArgs false

end Go.Proofs.Ytgebhidpkcjpmaa.PLg

namespace Go.Proofs.Ytgebhidpkcjpmaa.Daw
set_option linter.unusedVariables false
set_option linter.unusedSimpArgs false
/-- The words taken from state i on. -/
def wl (b : List DS) (i : Nat) : List (List Nat) := listing b (i + 1) i
theorem listing_fuel {b : List DS} (h : Good b) : ∀ (i k : Nat), i < k → i < b.length → listing b k i = listing b (i + 1) i := by
  intro i
  induction i using Nat.strongRecOn with
  | _ i ih =>
    intro k hk hi
    obtain ⟨k, rfl⟩ : ∃ q, k = q + 1 := ⟨k - 1, by omega⟩
    have e0 : b[i]? = some b[i] := List.getElem?_eq_getElem hi
    have hrow := (h.2 i _ e0).1
    unfold listing
    rw [e0]
    simp only
    congr 1
    have : ∀ es : List DE, (∀ e ∈ es, e.2 < i) → (es.flatMap fun e => (listing b k e.2).map (e.1 :: ·)) = es.flatMap fun e => (listing b i e.2).map (e.1 :: ·) := by
      intro es hes
      induction es with
      | nil => rfl
      | cons e r ihr =>
        have he := hes e (by simp)
        rw [List.flatMap_cons, List.flatMap_cons, ihr (fun f hf => hes f (by simp [hf])), ih e.2 he k (by omega) (by omega), ih e.2 he i (by omega) (by omega)]
    exact this _ (fun e he => hrow.1 e he)
theorem wl_eq {b : List DS} (h : Good b) {i : Nat} (hi : i < b.length) : wl b i = (if b[i].1 = true then [[]] else []) ++ b[i].2.flatMap fun e => (wl b e.2).map (e.1 :: ·) := by
  have e0 : b[i]? = some b[i] := List.getElem?_eq_getElem hi
  have hrow := (h.2 i _ e0).1
  show listing b (i + 1) i = _
  unfold listing
  rw [e0]
  simp only
  congr 1
  have : ∀ es : List DE, (∀ e ∈ es, e.2 < i) → (es.flatMap fun e => (listing b i e.2).map (e.1 :: ·)) = es.flatMap fun e => (wl b e.2).map (e.1 :: ·) := by
    intro es hes
    induction es with
    | nil => rfl
    | cons e r ihr =>
      have he := hes e (by simp)
      rw [List.flatMap_cons, List.flatMap_cons, ihr (fun f hf => hes f (by simp [hf])), listing_fuel h e.2 i he (by omega)]
      rfl
  exact this _ (fun e he => hrow.1 e he)
theorem mem_wl {b : List DS} (h : Good b) {i : Nat} (hi : i < b.length) (v : List Nat) : v ∈ wl b i ↔ acc b i v = true := mem_listing h (i + 1) i (by omega) hi v
theorem wl_sorted {b : List DS} (h : Good b) (i : Nat) : (wl b i).Pairwise (· < ·) := sorted_listing h _ i
/-- How many words are taken from a state on. -/
def cnt (b : List DS) (i : Nat) : Nat := (wl b i).length
def own (s : DS) : Nat := if s.1 = true then 1 else 0
theorem len_flat (f : DE → List (List Nat)) : ∀ es : List DE, (es.flatMap fun e => (f e).map (e.1 :: ·)).length = (es.map fun e => (f e).length).sum
  | [] => rfl
  | e :: r => by rw [List.flatMap_cons, List.length_append, List.length_map, len_flat f r]; simp
theorem cnt_eq {b : List DS} (h : Good b) {i : Nat} (hi : i < b.length) : cnt b i = own b[i] + (b[i].2.map fun e => cnt b e.2).sum := by
  unfold cnt
  rw [wl_eq h hi, List.length_append, len_flat]
  congr 1
  unfold own
  split <;> rfl
theorem cnt_root (l : List (List Nat)) (hs : ([] :: l).Pairwise (· < ·)) (hl : l ≠ []) : wl (build l) ((build l).length - 1) = l := by
  have h1 := (build_least l hs hl).2.2.1
  exact build_lists l hs hl _ (by omega)
/-- From each state on what is taken is the rest of a word. -/
theorem build_reach (l : List (List Nat)) (hs : ([] :: l).Pairwise (· < ·)) (hl : l ≠ []) : Good (build l) ∧ ∀ j, j < (build l).length → ∃ u : List Nat, ∀ v, acc (build l) j v = true → (u ++ v) ∈ l := by
  have h := adds_ok l start 0 start_ok hs
  have hlang := adds_lang l start 0 start_ok hs
  have hreach := adds_reach l start 0 start_ok hs (fun j hj => absurd hj (by simp [start]))
  obtain ⟨s, r, hp, hrl, hse, hsf, hP⟩ := h.path
  have hrow : Row (l.foldl add start).left.length s := ⟨by simp [hse], by rw [hse]; trivial⟩
  obtain ⟨s', r', q1, q2, q3, q4, q5, q6, q7, q8, q9⟩ := leave_ok (l.foldl add start).word 0 r.length _ s r rfl (Nat.zero_le _) h.good hrow (fun h0 => Or.inl (hsf h0)) hP (by omega)
  have hlr := leave_reach (l.foldl add start).word 0 (lang (l.foldl add start).left (l.foldl add start).word (l.foldl add start).path) r.length _ s r rfl h.good hrow (fun h0 => Or.inl (hsf h0)) hP hreach (fun v hv => by rw [hp]; exact hv)
  rw [← hp] at q1 q3 q4 q5 q6 q8 q9 hlr
  have hlangl : ∀ v, lang (l.foldl add start).left (l.foldl add start).word (l.foldl add start).path v = decide (v ∈ l) := by
    intro v
    have h0 : lang start.left start.word start.path v = false := by cases v <;> simp [start, lang, PL, accS, fnd]
    rw [hlang v, h0, Bool.false_or]
  obtain ⟨a, t, hb, hg, hacc⟩ := build_takes l hs hl
  have hb2 : build l = (num (leave (l.foldl add start).word 0 (l.foldl add start).left (l.foldl add start).path).1 s').1 := by
    unfold build finish
    rw [q1]
  refine ⟨by rw [hb]; exact hg, fun j hj => ?_⟩
  by_cases hja : j = a.length
  · subst hja
    exact ⟨[], fun v hv => by rw [hacc] at hv; simpa using hv⟩
  · have hjl : j < (leave (l.foldl add start).word 0 (l.foldl add start).left (l.foldl add start).path).1.length := by
      have h1 : (build l).length ≤ (leave (l.foldl add start).word 0 (l.foldl add start).left (l.foldl add start).path).1.length + 1 := by
        rw [hb2]; unfold num; split
        · exact Nat.le_succ _
        · simp
      have h2 : (build l).length = a.length + 1 := by rw [hb]; simp
      omega
    obtain ⟨u, _, hv⟩ := hlr j hjl
    refine ⟨u, fun v h1 => ?_⟩
    have e : acc (build l) j v = acc (leave (l.foldl add start).word 0 (l.foldl add start).left (l.foldl add start).path).1 j v := by
      rw [hb2]; unfold num; split
      · rfl
      · exact acc_ext q3 v j hjl
    rw [e] at h1
    have h2 := hv v h1
    rw [hlangl] at h2
    exact of_decide_eq_true h2
theorem nodup_len : ∀ (x y : List (List Nat)), x.Nodup → (∀ v ∈ x, v ∈ y) → x.length ≤ y.length
  | [], y, _, _ => Nat.zero_le _
  | a :: x, y, hn, h => by
    rw [List.nodup_cons] at hn
    have ha := h a (by simp)
    have := nodup_len x (y.erase a) hn.2 (fun v hv => (List.mem_erase_of_ne (fun e => hn.1 (by rw [← e]; exact hv))).2 (h v (by simp [hv])))
    rw [List.length_erase_of_mem ha] at this
    have := List.length_pos_of_mem ha
    simp only [List.length_cons]; omega
/-- No state takes more words than there are. -/
theorem cnt_le (l : List (List Nat)) (hs : ([] :: l).Pairwise (· < ·)) (hl : l ≠ []) {j : Nat} (hj : j < (build l).length) : cnt (build l) j ≤ l.length := by
  obtain ⟨hg, hr⟩ := build_reach l hs hl
  obtain ⟨u, hu⟩ := hr j hj
  have h1 : ((wl (build l) j).map (u ++ ·)).Nodup := by
    unfold List.Nodup
    rw [List.pairwise_map]
    refine (wl_sorted hg j).imp (fun {a b} hab e => ?_)
    have : a = b := List.append_cancel_left e
    subst this
    exact List.lt_irrefl a hab
  have := nodup_len _ l h1 (fun v hv => by
    obtain ⟨x, hx, rfl⟩ := List.mem_map.1 hv
    exact hu x ((mem_wl hg hj x).1 hx))
  rw [List.length_map] at this
  exact this
theorem fnd_split {s : DS} (hr : Rising s.2) {c : Nat} {e : DE} (h : fnd s c = some e) : ∃ pre post, s.2 = pre ++ e :: post ∧ e.1 = c ∧ (∀ f ∈ pre, f.1 < c) ∧ (∀ f ∈ post, c < f.1) := by
  unfold fnd at h
  obtain ⟨b, l⟩ := s
  simp only at hr h ⊢
  induction l with
  | nil => simp at h
  | cons a r ih =>
    rw [List.find?_cons] at h
    by_cases hc : (a.1 == c) = true
    · rw [hc] at h
      have e1 : a = e := by simpa using h
      subst e1
      have hac : a.1 = c := by simpa using hc
      exact ⟨[], r, rfl, hac, by simp, fun f hf => by rw [← hac]; exact hr.1 f hf⟩
    · have hc' : (a.1 == c) = false := by simpa using hc
      rw [hc'] at h
      obtain ⟨pre, post, h1, h2, h3, h4⟩ := ih hr.2 h
      refine ⟨a :: pre, post, by rw [h1]; rfl, h2, fun f hf => ?_, h4⟩
      rcases List.mem_cons.1 hf with rfl | hf
      · have : f.1 < e.1 := hr.1 e (by rw [h1]; simp)
        omega
      · exact h3 f hf
theorem idx_skip {α : Type} [BEq α] [LawfulBEq α] (x y : List α) (v : α) (h : v ∉ x) : (x ++ y).idxOf v = x.length + y.idxOf v := by
  rw [List.idxOf_append, if_neg h]
  omega
theorem idx_cons (c : Nat) (x : List (List Nat)) (v : List Nat) : (x.map (c :: ·)).idxOf (c :: v) = x.idxOf v := by
  induction x with
  | nil => rfl
  | cons a r ih =>
    rw [List.map_cons, List.idxOf_cons, List.idxOf_cons, ih]
    by_cases h : a = v
    · subst h; simp
    · have h1 : (a == v) = false := by simpa using h
      have h2 : ((c :: a) == (c :: v)) = false := by simpa using h
      rw [h1, h2]
/-- The place of a word behind byte c: what the state takes by itself, what lower bytes lead to, and its place there. -/
theorem place_cons {b : List DS} (h : Good b) {i : Nat} (hi : i < b.length) {c : Nat} {v : List Nat} {e : DE} {pre post : List DE} (hs : b[i].2 = pre ++ e :: post) (he : e.1 = c) (hpre : ∀ f ∈ pre, f.1 < c) (hv : v ∈ wl b e.2) :
    (wl b i).idxOf (c :: v) = own b[i] + (pre.map fun f => cnt b f.2).sum + (wl b e.2).idxOf v := by
  rw [wl_eq h hi, hs, List.flatMap_append, List.flatMap_cons]
  have h1 : (c :: v) ∉ (if b[i].1 = true then [[]] else [] : List (List Nat)) := by split <;> simp
  have h2 : (c :: v) ∉ pre.flatMap fun e => (wl b e.2).map (e.1 :: ·) := by
    intro hm
    obtain ⟨f, hf, hm⟩ := List.mem_flatMap.1 hm
    obtain ⟨u, _, hu⟩ := List.mem_map.1 hm
    have := hpre f hf
    injection hu with hu _
    omega
  have h3 : (c :: v) ∈ (wl b e.2).map (e.1 :: ·) := List.mem_map.2 ⟨v, hv, by rw [he]⟩
  rw [idx_skip _ _ _ h1, idx_skip _ _ _ h2, List.idxOf_append, if_pos h3, he, idx_cons, len_flat]
  have : (if b[i].1 = true then [[]] else [] : List (List Nat)).length = own b[i] := by unfold own; split <;> rfl
  rw [this]
  unfold cnt
  omega
theorem place_nil {b : List DS} (h : Good b) {i : Nat} (hi : i < b.length) (hv : [] ∈ wl b i) : (wl b i).idxOf [] = 0 := by
  rw [mem_wl h hi, acc_at (s := b[i]) (List.getElem?_eq_getElem hi)] at hv
  rw [wl_eq h hi, if_pos (show b[i].1 = true from hv)]
  rfl
end Go.Proofs.Ytgebhidpkcjpmaa.Daw

namespace Go.Proofs.Ytgebhidpkcjpmaa.Fil
open Go.Proofs.Ytgebhidpkcjpmaa.Daw
set_option linter.unusedVariables false
set_option linter.unusedSimpArgs false
/-- An edge of state i. -/
def edB (i : Nat) (e : DE) : List Nat := e.1 :: put (i - e.2)
def hdN (s : DS) : Nat := 2 * s.2.length + (if s.1 = true then 1 else 0)
def stB (i : Nat) (s : DS) : List Nat := put (hdN s) ++ s.2.flatMap (edB i)
/-- The states from the i-th on. -/
def stsB : Nat → List DS → List Nat
  | _, [] => []
  | i, s :: r => stB i s ++ stsB (i + 1) r
def statesB (a : List DS) : List Nat := put a.length ++ stsB 0 a
def countsB (l : List Nat) : List Nat := put l.length ++ l.flatMap put
/-- A record, told by the sum's function. -/
def recB (crc : List Nat → List Nat) (p : List Nat) : List Nat := put p.length ++ (p ++ crc p)
def magicB : List Nat := [77, 65, 78, 84, 69, 76, 69, 84]
def encB (crc : List Nat → List Nat) (a : List DS) (c k : List Nat) : List Nat := recB crc magicB ++ (recB crc (statesB a) ++ (recB crc (countsB c) ++ recB crc k))
/-- All edges lead to lower states, or to the state itself. -/
def Low (i : Nat) (a : List DS) : Prop := ∀ k s, a[k]? = some s → ∀ e ∈ s.2, e.2 ≤ i + k
theorem Low.tail {i : Nat} {s : DS} {a : List DS} (h : Low i (s :: a)) : Low (i + 1) a := fun k t hk e he => by
  have := h (k + 1) t (by simpa using hk) e he
  omega
theorem Low.head {i : Nat} {s : DS} {a : List DS} (h : Low i (s :: a)) : ∀ e ∈ s.2, e.2 ≤ i := fun e he => h 0 s rfl e he
end Go.Proofs.Ytgebhidpkcjpmaa.Fil

namespace Go.Proofs.Ytgebhidpkcjpmaa.K
open Go.RowKit Go.Proofs.YtgebhidpkcjpmaaW.PrintWords Go.Proofs.YtgebhidpkcjpmaaW.PrintLast Go.Proofs.YtgebhidpkcjpmaaW.PrintMore Go.Proofs.Ytgebhidpkcjpmaa
attribute [local go_sem] max2_int min2_int max_two min_two max_three min_three max_four min_four
set_option linter.unusedVariables false
set_option linter.unusedSimpArgs false
open Go Go.Proofs.Ytgebhidpkcjpmaa.PR13 Go.Proofs.Ytgebhidpkcjpmaa.PDk Go.Proofs.Ytgebhidpkcjpmaa.PDm Go.Proofs.Ytgebhidpkcjpmaa.PFl Go.Proofs.Ytgebhidpkcjpmaa.Daw Go.Proofs.Ytgebhidpkcjpmaa.Fil Go.Proofs.Ytgebhidpkcjpmaa.Crc
def zs (l : List Nat) : List Int := l.map Int.ofNat
theorem zs_len (l : List Nat) : (zs l).length = l.length := List.length_map ..
theorem zs_app (a b : List Nat) : zs (a ++ b) = zs a ++ zs b := List.map_append
theorem zs_cons (a : Nat) (b : List Nat) : zs (a :: b) = (a : Int) :: zs b := rfl
theorem zs_nat (l : List Nat) : natL (zs l) = l := by
  unfold natL zs
  rw [List.map_map]
  exact (List.map_congr_left fun x _ => rfl).trans (List.map_id l)
theorem zs_byt {l : List Nat} (h : ∀ x ∈ l, x < 256) : byt (zs l) = true := List.all_eq_true.2 fun x hx => by
  obtain ⟨y, hy, rfl⟩ := List.mem_map.1 hx
  have := h y hy
  simp; omega
theorem u64s {x : Int} (h0 : 0 ≤ x) (h1 : x < 18446744073709551616) : IntKind.u64.wrap x = x := by
  simp [IntKind.wrap, IntKind.bits, IntKind.signed]; omega
theorem put10 (n : Nat) (hn : n < 18446744073709551616) : (put n).length ≤ 11 := put_len 10 n (Nat.lt_of_lt_of_le hn (by decide))
theorem put_ev (x : List Int) (n : Nat) (hn : n < 18446744073709551616) (hx : x.length < 140737488000000) : Ev (fun k => num_Put.f k x (n : Int)) (x ++ zs (put n)) := by
  refine Ev.of (k := 20) (fun k => num_Put.mono _ _ _) ?_
  unfold num_Put.f
  simp only [Option.bind_some, List.length_nil, Nat.zero_add, List.nil_append]
  rw [if_pos (by omega), put_l0 19 n x (Nat.lt_of_lt_of_le hn (by decide)) (by omega)]
  rfl
theorem put_evI (x : List Int) (i : Int) (n : Nat) (hi : i = (n : Int)) (hn : n < 18446744073709551616) (hx : x.length < 140737488000000) : Ev (fun k => num_Put.f k x (IntKind.u64.wrap i)) (x ++ zs (put n)) := by
  subst hi
  rw [u64s (by omega) (by omega)]
  exact put_ev x n hn hx
theorem sum_l0 (c : Nat) : frame_sum.l0 5 (c : Int) ([] : List Int) 0 = some (zs [c % 256, c / 256 % 256, c / 65536 % 256, c / 16777216 % 256]) := by
  have w0 : Go.RowKit.wrap64 (8 * 0) = 0 := wz (by decide) (by decide)
  have w1 : Go.RowKit.wrap64 (8 * 1) = 8 := wz (by decide) (by decide)
  have w2 : Go.RowKit.wrap64 (8 * 2) = 16 := wz (by decide) (by decide)
  have w3 : Go.RowKit.wrap64 (8 * 3) = 24 := wz (by decide) (by decide)
  have a0 : Go.RowKit.wrap64 (0 + 1) = 1 := wz (by decide) (by decide)
  have a1 : Go.RowKit.wrap64 (1 + 1) = 2 := wz (by decide) (by decide)
  have a2 : Go.RowKit.wrap64 (2 + 1) = 3 := wz (by decide) (by decide)
  have a3 : Go.RowKit.wrap64 (3 + 1) = 4 := wz (by decide) (by decide)
  have s0 : shr .u32 (c : Int) 0 % 256 = ((c % 256 : Nat) : Int) := by show (c : Int) / 2 ^ 0 % 256 = _; omega
  have s1 : shr .u32 (c : Int) 8 % 256 = ((c / 256 % 256 : Nat) : Int) := by show (c : Int) / 2 ^ 8 % 256 = _; omega
  have s2 : shr .u32 (c : Int) 16 % 256 = ((c / 65536 % 256 : Nat) : Int) := by show (c : Int) / 2 ^ 16 % 256 = _; omega
  have s3 : shr .u32 (c : Int) 24 % 256 = ((c / 16777216 % 256 : Nat) : Int) := by show (c : Int) / 2 ^ 24 % 256 = _; omega
  unfold frame_sum.l0
  rw [if_pos (by decide), w0, if_pos (by decide), if_pos (by simp), a0, s0]
  unfold frame_sum.l0
  rw [if_pos (by decide), w1, if_pos (by decide), if_pos (by simp), a1, s1]
  unfold frame_sum.l0
  rw [if_pos (by decide), w2, if_pos (by decide), if_pos (by simp), a2, s2]
  unfold frame_sum.l0
  rw [if_pos (by decide), w3, if_pos (by decide), if_pos (by simp), a3, s3]
  unfold frame_sum.l0
  rw [if_neg (by decide)]
  rfl
theorem sum_ev (l : List Int) (h : byt l = true) : Ev (fun k => frame_sum.f k l) (zs (sumB (natL l))) := by
  refine Ev.of (k := 5) (fun k => frame_sum.mono _ _) ?_
  unfold frame_sum.f crc_Of.f
  rw [if_pos h, Option.bind_some, sum_l0]
  rfl
theorem frame_ev (b : List Int) (p : List Nat) (hp : ∀ x ∈ p, x < 256) (hl : p.length ≤ 1048576) (hb : b.length < 70368744000000) : Ev (fun k => frame_Put.f k b (zs p)) (b ++ zs (recB sumB p), 0) := by
  unfold frame_Put.f
  simp only [zs_len]
  refine Ev.congr (fun k => if_neg (by omega)) ?_
  refine Ev.bind (put_evI b _ p.length rfl (by omega) (by omega)) ?_
  have h10 := put10 p.length (by omega)
  refine Ev.congr (fun k => if_pos (by rw [List.length_append, zs_len]; omega)) ?_
  simp only [Option.bind_some]
  refine Ev.bind (sum_ev (zs p) (zs_byt hp)) ?_
  rw [zs_nat]
  refine Ev.congr (fun k => if_pos (by rw [List.length_append, List.length_append, zs_len, zs_len, zs_len, sumB_len]; omega)) ?_
  unfold recB
  rw [zs_app, zs_app, ← List.append_assoc, ← List.append_assoc]
  exact Ev.now _
theorem rdst (b : List DS) (n : Nat) (h : n < b.length) : rd_T82 (b.map toS) (n : Int) = toS b[n] := by
  unfold rd_T82
  rw [Int.toNat_natCast, List.getD_eq_getElem?_getD, List.getElem?_map, List.getElem?_eq_getElem h]; rfl
theorem rded (es : List DE) (n : Nat) (h : n < es.length) : rd_T84 (es.map toE) (n : Int) = toE es[n] := by
  unfold rd_T84
  rw [Int.toNat_natCast, List.getD_eq_getElem?_getD, List.getElem?_map, List.getElem?_eq_getElem h]; rfl
theorem edB_len (i : Nat) (hi : i < 9223372036854775807) (e : DE) : (edB i e).length ≤ 12 := by
  unfold edB
  have := put10 (i - e.2) (by omega)
  simp; omega
theorem st_l1 (R : List S82) (n : Int) (i : Nat) (hi : i < 9223372036854775807) (es : List DE) (he : ∀ e ∈ es, e.2 ≤ i) (hl : es.length ≤ 4611686018427387904) : ∀ (d j : Nat) (x : List Int), j + d = es.length → x.length + 12 * d < 140000000000000 → ∀ r, Ev (fun k => file_states.l0 k (x ++ zs ((es.drop j).flatMap (edB i))) R n (Go.RowKit.wrap64 ((i : Int) + 1))) r → Ev (fun k => file_states.l1 k x (i : Int) R n (i : Int) (es.map toE) (es.length : Int) (j : Int)) r
  | 0, j, x, hj, hx, r, h => by
    rw [List.drop_eq_nil_of_le (by omega)] at h
    refine Ev.step (fun k => ?_) (by simpa [zs] using h)
    simp only [file_states.l1]
    rw [if_neg (by omega)]
  | d + 1, j, x, hj, hx, r, h => by
    have hlt : j < es.length := by omega
    have hmem := List.getElem_mem hlt
    have h2 := he _ hmem
    have hlm : ((es.map toE).length : Int) = (es.length : Int) := by rw [List.length_map]
    rw [List.drop_eq_getElem_cons hlt, List.flatMap_cons, zs_app, ← List.append_assoc] at h
    have hed := edB_len i hi es[j]
    have hpe := put_evI (x ++ [(es[j].1 : Int)]) (Go.RowKit.wrap64 ((i : Int) - (es[j].2 : Int))) (i - es[j].2) (by rw [wz (by omega) (by omega)]; omega) (by omega) (by rw [List.length_append]; simp; omega)
    have e1 : x ++ [(es[j].1 : Int)] ++ zs (put (i - es[j].2)) = x ++ zs (edB i es[j]) := by
      unfold edB
      rw [zs_cons, List.append_assoc]; rfl
    rw [e1] at hpe
    have ih := st_l1 R n i hi es he hl d (j + 1) (x ++ zs (edB i es[j])) (by omega) (by rw [List.length_append, zs_len]; omega) r h
    refine Ev.step (f := fun k => (num_Put.f k (x ++ [(es[j].1 : Int)]) (IntKind.u64.wrap (Go.RowKit.wrap64 ((i : Int) - (es[j].2 : Int))))).bind fun t130 => (file_states.l1 k t130 (i : Int) R n (i : Int) (es.map toE) (es.length : Int) ((j + 1 : Nat) : Int))) (fun k => ?_) (Ev.bind hpe ih)
    simp only [file_states.l1]
    rw [if_pos (by omega), if_pos (by omega), if_pos (by rw [hlm]; omega), if_pos (by omega), rded es j hlt, wz (x := (j : Int) + 1) (by omega) (by omega)]
    rfl
def wt (b : List DS) : Nat := (b.map fun s => s.2.length + 1).sum
theorem wt_cons (s : DS) (b : List DS) : wt (s :: b) = s.2.length + 1 + wt b := by simp [wt]
theorem flat_len (f : DE → List Nat) (m : Nat) (hf : ∀ e, (f e).length ≤ m) : ∀ es : List DE, (es.flatMap f).length ≤ m * es.length
  | [] => by simp
  | e :: es => by
    rw [List.flatMap_cons, List.length_append, List.length_cons, Nat.mul_succ]
    have := hf e
    have := flat_len f m hf es
    omega
theorem st_l0 (b : List DS) (hb : Low 0 b) (hn : b.length ≤ 1000000000) (hw : ∀ s ∈ b, s.2.length ≤ 1000000000) : ∀ (d i : Nat) (x : List Int), i + d = b.length → x.length + 12 * wt (b.drop i) < 140000000000000 → Ev (fun k => file_states.l0 k x (b.map toS) (b.length : Int) (i : Int)) (x ++ zs (stsB i (b.drop i)))
  | 0, i, x, hi, hx => by
    rw [List.drop_eq_nil_of_le (by omega)]
    refine Ev.step (f := fun _ => some x) (fun k => ?_) (by simpa [zs, stsB] using Ev.now x)
    simp only [file_states.l0]
    rw [if_neg (by omega)]
  | d + 1, i, x, hi, hx => by
    have hlt : i < b.length := by omega
    have hlm : ((b.map toS).length : Int) = (b.length : Int) := by rw [List.length_map]
    rw [List.drop_eq_getElem_cons hlt] at hx ⊢
    have hs2 := hw _ (List.getElem_mem hlt)
    have hlow := hb i b[i] (List.getElem?_eq_getElem hlt)
    have HR := rdst b i hlt
    have ih := fun x h => st_l0 b hb hn hw d (i + 1) x (by omega) h
    generalize b[i] = s at hx hs2 hlow HR ⊢
    rw [wt_cons] at hx
    have hl1 : ((s.2.map toE).length : Int) = (s.2.length : Int) := by rw [List.length_map]
    have hfl := flat_len (edB i) 12 (edB_len i (by omega)) s.2
    have hp10 := put10 (hdN s) (by unfold hdN; split <;> omega)
    have hnext := ih (x ++ zs (stB i s)) (by unfold stB; rw [List.length_append, zs_len, List.length_append]; omega)
    rw [List.append_assoc, ← zs_app] at hnext
    have hl := st_l1 (b.map toS) (b.length : Int) i (by omega) s.2 (by simpa using hlow) (by omega) s.2.length 0 (x ++ zs (put (hdN s))) (by omega) (by rw [List.length_append, zs_len]; omega) (x ++ zs (stB i s ++ stsB (i + 1) (b.drop (i + 1)))) (by
      rw [List.drop_zero, List.append_assoc, ← zs_app, wz (by omega) (by omega)]
      exact hnext)
    have hj : ∀ x6 : Int, x6 = (hdN s : Int) → Ev (fun k => file_states.j1 k x (i : Int) x6 (b.map toS) (b.length : Int) (i : Int) s.1 (s.2.map toE)) (x ++ zs (stB i s ++ stsB (i + 1) (b.drop (i + 1)))) := fun x6 h6 => by
      refine Ev.step (f := fun k => (num_Put.f k x (IntKind.u64.wrap x6)).bind fun t122 => (file_states.l1 k t122 (i : Int) (b.map toS) (b.length : Int) (i : Int) (s.2.map toE) (s.2.length : Int) 0)) (fun k => by simp only [file_states.j1, hl1]) (Ev.bind (put_evI x x6 (hdN s) h6 (by unfold hdN; split <;> omega) (by omega)) hl)
    show Ev _ (x ++ zs (stB i s ++ stsB (i + 1) (b.drop (i + 1))))
    cases hs : s.1 with
    | true =>
      refine Ev.step (fun k => ?_) (hj (Go.RowKit.wrap64 ((Go.RowKit.wrap64 (2 * ((s.2.map toE).length : Int))) + 1)) (by rw [hl1, wz (x := 2 * (s.2.length : Int)) (by omega) (by omega), wz (by omega) (by omega)]; unfold hdN; rw [hs]; simp))
      simp only [file_states.l0]
      rw [if_pos (by omega), if_pos (by omega), if_pos (by rw [hlm]; omega), HR, if_pos (show (toS s).f0 = true from hs)]
      rfl
    | false =>
      refine Ev.step (fun k => ?_) (hj (Go.RowKit.wrap64 (2 * ((s.2.map toE).length : Int))) (by rw [hl1, wz (x := 2 * (s.2.length : Int)) (by omega) (by omega)]; unfold hdN; rw [hs]; simp))
      simp only [file_states.l0]
      rw [if_pos (by omega), if_pos (by omega), if_pos (by rw [hlm]; omega), HR, if_neg (show ¬ (toS s).f0 = true from by show ¬ s.1 = true; rw [hs]; decide)]
      rfl
theorem states_ev (b : List DS) (hb : Low 0 b) (hn : b.length ≤ 1000000000) (hw : ∀ s ∈ b, s.2.length ≤ 1000000000) (hwt : wt b ≤ 10000000000000) : Ev (fun k => file_states.f k (b.map toS)) (zs (statesB b)) := by
  unfold file_states.f
  simp only [List.length_map]
  refine Ev.bind (put_evI [] _ b.length rfl (by omega) (by simp)) ?_
  rw [List.nil_append]
  have h10 := put10 b.length (by omega)
  have := st_l0 b hb hn hw b.length 0 (zs (put b.length)) (by omega) (by rw [zs_len, List.drop_zero]; omega)
  rw [List.drop_zero, ← zs_app] at this
  exact this
end Go.Proofs.Ytgebhidpkcjpmaa.K

namespace Go.Proofs.Ytgebhidpkcjpmaa.K
open Go.RowKit Go.Proofs.YtgebhidpkcjpmaaW.PrintWords Go.Proofs.YtgebhidpkcjpmaaW.PrintLast Go.Proofs.YtgebhidpkcjpmaaW.PrintMore Go.Proofs.Ytgebhidpkcjpmaa
attribute [local go_sem] max2_int min2_int max_two min_two max_three min_three max_four min_four
set_option linter.unusedVariables false
set_option linter.unusedSimpArgs false
open Go.Proofs.Ytgebhidpkcjpmaa.PDk Go.Proofs.Ytgebhidpkcjpmaa.PDm Go.Proofs.Ytgebhidpkcjpmaa.PIx Go.Proofs.Ytgebhidpkcjpmaa.Daw
theorem u64_small {x : Int} (h0 : 0 ≤ x) (h1 : x < 18446744073709551616) : IntKind.u64.wrap x = x := by
  simp only [IntKind.wrap, IntKind.bits, IntKind.signed]
  simp
  omega
theorem wx {x : Int} (h0 : -9223372036854775808 ≤ x) (h1 : x < 9223372036854775808) : Go.RowKit.wrap64 x = x := by unfold Go.RowKit.wrap64; omega
theorem rdS31 (l : List S82) (i : Nat) (h : i < l.length) : rd_T82 l (i : Int) = l[i] := by
  unfold rd_T82
  rw [Int.toNat_natCast, List.getD_eq_getElem?_getD, List.getElem?_eq_getElem h]; rfl
theorem rdS33 (l : List S84) (i : Nat) (h : i < l.length) : rd_T84 l (i : Int) = l[i] := by
  unfold rd_T84
  rw [Int.toNat_natCast, List.getD_eq_getElem?_getD, List.getElem?_eq_getElem h]; rfl
theorem own_f (s : DS) : index_own.f (toS s).f0 (toS s).f1 = some ((own s : Nat) : Int) := by
  unfold index_own.f own
  show (if s.1 = true then _ else _) = _
  split <;> simp_all
theorem add_f {a b : Nat} (h : a + b ≤ 4611686018427387904) : num_Add.f (a : Int) (b : Int) = some (((a + b : Nat) : Int), true) := by
  unfold num_Add.f
  rw [if_neg (by omega), u64_small (x := 4611686018427387904 - (a : Int)) (by omega) (by omega), if_neg (by omega), u64_small (by omega) (by omega)]
  simp
/-- What is known of an automaton: edges lead lower; the counts. -/
structure Cnt (b : List DS) (cs : Nat → Nat) : Prop where
  low : ∀ i (h : i < b.length), ∀ e ∈ b[i].2, e.2 < i
  eq : ∀ i (h : i < b.length), cs i = own b[i] + (b[i].2.map fun e => cs e.2).sum
  le : ∀ i, i < b.length → cs i ≤ 4611686018427387904
  few : ∀ i (h : i < b.length), b[i].2.length ≤ 8796093022208
  len : b.length ≤ 4398046511104
def csL (cs : Nat → Nat) (n : Nat) : List Int := (List.range n).map fun i => (cs i : Int)
theorem csL_len (cs : Nat → Nat) (n : Nat) : (csL cs n).length = n := by simp [csL]
theorem csL_succ (cs : Nat → Nat) (n : Nat) : csL cs (n + 1) = csL cs n ++ [(cs n : Int)] := by unfold csL; rw [List.range_succ]; simp
theorem rd_csL (cs : Nat → Nat) (n m i : Nat) (h : i < n) : rd (csL cs n ++ List.replicate m 0) (i : Int) = (cs i : Int) := by
  rw [rd_nat, List.getD_eq_getElem?_getD, List.getElem?_append_left (by rw [csL_len]; exact h)]
  unfold csL
  rw [List.getElem?_map, List.getElem?_range h]
  rfl
theorem sum_take_le (f : DE → Nat) (es : List DE) (j : Nat) : ((es.take j).map f).sum ≤ (es.map f).sum := by
  have e : es = es.take j ++ es.drop j := (List.take_append_drop j es).symm
  conv => rhs; rw [e]
  rw [List.map_append, List.sum_append]; omega
theorem sum_take_succ (f : DE → Nat) (es : List DE) (j : Nat) (h : j < es.length) : ((es.take (j + 1)).map f).sum = ((es.take j).map f).sum + f es[j] := by
  rw [List.take_succ_eq_append_getElem h, List.map_append, List.sum_append]; simp
section
variable {b : List DS} {cs : Nat → Nat}
theorem toS_get (i : Nat) (h : i < b.length) : (b.map toS)[i]'(by rw [List.length_map]; exact h) = toS b[i] := List.getElem_map ..
theorem counts_l1 (h : Cnt b cs) (i : Nat) (hi : i < b.length) {r : List Int × Int} (hn : Ev (fun k => index_Counts.l0 k (b.map toS) (csL cs (i + 1) ++ List.replicate (b.length - (i + 1)) 0) (b.length : Int) ((i + 1 : Nat) : Int)) r) :
    ∀ (d j : Nat), j + d = b[i].2.length → Ev (fun k => index_Counts.l1 k (b.map toS) (csL cs i ++ List.replicate (b.length - i) 0) (i : Int) ((own b[i] + ((b[i].2.take j).map fun e => cs e.2).sum : Nat) : Int) (b.length : Int) (i : Int) (toS b[i]).f1 ((toS b[i]).f1.length : Int) (j : Int)) r
  | 0, j, hd => by
    have hl := h.len
    have hj : b[i].2.take j = b[i].2 := List.take_of_length_le (by omega)
    have he : (toS b[i]).f1.length = b[i].2.length := by simp [toS]
    rw [hj, ← h.eq i hi]
    refine Ev.step (fun k => ?_) hn
    simp only [index_Counts.l1]
    rw [if_neg (by omega), if_pos (by omega), if_pos (by rw [List.length_append, csL_len, List.length_replicate]; omega), wx (by omega) (by omega), Int.toNat_natCast]
    have hset : (csL cs i ++ List.replicate (b.length - i) 0).set i (cs i : Int) = csL cs (i + 1) ++ List.replicate (b.length - (i + 1)) 0 := by
      rw [csL_succ, List.set_append_right _ _ (by rw [csL_len]; exact Nat.le_refl _), csL_len, Nat.sub_self, show b.length - i = (b.length - (i + 1)) + 1 from by omega, List.replicate_succ, List.set_cons_zero, List.append_assoc]
      rfl
    rw [hset, show ((i : Int) + 1) = ((i + 1 : Nat) : Int) from by omega]
  | d + 1, j, hd => by
    have hl := h.len
    have hf := h.few i hi
    have ih := counts_l1 h i hi hn d (j + 1) (by omega)
    have hj : j < b[i].2.length := by omega
    have he : (toS b[i]).f1.length = b[i].2.length := by simp [toS]
    have hlow := h.low i hi _ (List.getElem_mem hj)
    have hle := h.le i hi
    have heq := h.eq i hi
    have s1 := sum_take_le (fun e => cs e.2) b[i].2 (j + 1)
    have s2 := sum_take_succ (fun e => cs e.2) b[i].2 j hj
    have hg : ((toS b[i]).f1[j]'(by omega)).f1 = ((b[i].2[j].2 : Nat) : Int) := by simp [toS, toE]
    refine Ev.step (fun k => ?_) ih
    simp only [index_Counts.l1]
    rw [if_pos (by omega), if_pos (by omega), if_pos (by omega), rdS33 _ j (by omega), hg, if_pos (by omega), if_pos (by rw [List.length_append, csL_len, List.length_replicate]; omega), rd_csL _ _ _ _ hlow, add_f (by omega), Option.bind_some, if_pos rfl, wx (x := (j : Int) + 1) (by omega) (by omega)]
    rw [s2, show ((j : Int) + 1) = ((j + 1 : Nat) : Int) from by omega, Nat.add_assoc]
theorem counts_l0 (h : Cnt b cs) : ∀ (d i : Nat), i + d = b.length → Ev (fun k => index_Counts.l0 k (b.map toS) (csL cs i ++ List.replicate (b.length - i) 0) (b.length : Int) (i : Int)) (csL cs b.length, 0)
  | 0, i, hd => by
    have : i = b.length := by omega
    subst this
    refine Ev.step (f := fun _ => some (csL cs b.length, 0)) (fun k => ?_) (Ev.now _)
    simp only [index_Counts.l0]
    rw [if_neg (by omega), Nat.sub_self]
    simp
  | d + 1, i, hd => by
    have hi : i < b.length := by omega
    have ih := counts_l0 h d (i + 1) (by omega)
    have h1 := counts_l1 h i hi ih b[i].2.length 0 (by omega)
    refine Ev.step (fun k => ?_) h1
    simp only [index_Counts.l0]
    rw [if_pos (by omega), if_pos (by omega), if_pos (by rw [List.length_map]; omega), rdS31 _ i (by rw [List.length_map]; exact hi), toS_get i hi, own_f, Option.bind_some]
    simp
theorem counts_ev (h : Cnt b cs) (hm : daw_May.f (b.map toS) = some true) : Ev (fun k => index_Counts.f k (b.map toS)) (csL cs b.length, 0) := by
  have hl := h.len
  refine Ev.congr (fun k => ?_) (counts_l0 h b.length 0 (by omega))
  unfold index_Counts.f
  rw [hm, Option.bind_some, if_pos rfl, List.length_map, if_pos (by omega), Int.toNat_natCast, if_pos (by omega)]
  simp [csL]
end
end Go.Proofs.Ytgebhidpkcjpmaa.K

namespace Go.Proofs.Ytgebhidpkcjpmaa.K
open Go.RowKit Go.Proofs.YtgebhidpkcjpmaaW.PrintWords Go.Proofs.YtgebhidpkcjpmaaW.PrintLast Go.Proofs.YtgebhidpkcjpmaaW.PrintMore Go.Proofs.Ytgebhidpkcjpmaa
attribute [local go_sem] max2_int min2_int max_two min_two max_three min_three max_four min_four
set_option linter.unusedVariables false
set_option linter.unusedSimpArgs false
open Go.Proofs.Ytgebhidpkcjpmaa.PDk Go.Proofs.Ytgebhidpkcjpmaa.PDm Go.Proofs.Ytgebhidpkcjpmaa.PIx Go.Proofs.Ytgebhidpkcjpmaa.Daw
theorem bt_nats (s : ByteArray) (i : Nat) (h : i < s.size) : bt s (i : Int) = (((Utf.nats s).getD i 0 : Nat) : Int) := by
  unfold bt
  rw [dif_pos (show ((i : Int)).toNat < s.size by omega)]
  unfold Utf.nats
  rw [List.getD_eq_getElem?_getD, List.getElem?_map, Array.getElem?_toList]
  simp only [Int.toNat_natCast]
  rw [Array.getElem?_eq_getElem (show i < s.data.size from h)]
  rfl
theorem nats_drop (s : ByteArray) (i : Nat) (h : i < s.size) : (Utf.nats s).drop i = (Utf.nats s).getD i 0 :: (Utf.nats s).drop (i + 1) := by
  have hl : i < (Utf.nats s).length := by simpa [Utf.nats] using h
  rw [List.drop_eq_getElem_cons hl, List.getD_eq_getElem?_getD, List.getElem?_eq_getElem hl]
  rfl
section
variable {b : List DS}
/-- What index knows of an automaton. -/
structure Known (b : List DS) : Prop where
  good : Daw.Good b
  cnt : Cnt b (Daw.cnt b)
theorem rd_cs (h : Known b) (i : Nat) (hi : i < b.length) : rd (csL (Daw.cnt b) b.length) (i : Int) = ((Daw.cnt b i : Nat) : Int) := by
  have := rd_csL (Daw.cnt b) b.length 0 i hi
  simpa using this
theorem toE_f0 (e : DE) : (toE e).f0 = (e.1 : Int) := rfl
theorem toE_f1 (e : DE) : (toE e).f1 = (e.2 : Int) := rfl
theorem of_l1 {R : List S82} {csl : List Int} {c : Nat → Nat} (x1 : ByteArray) (i : Nat) (hi : i < x1.size) (es pre post : List DE) (e : DE) (B : Nat) (hs : es = pre ++ e :: post) (he : e.1 = B) (hB : bt x1 (i : Int) = (B : Int)) (hpre : ∀ f ∈ pre, f.1 < B) (hpost : ∀ f ∈ post, B < f.1)
    (hlen : es.length ≤ 8796093022208) (hrd : ∀ f ∈ es, f.2 < csl.length ∧ rd csl (f.2 : Int) = ((c f.2 : Nat) : Int))
    (q : Nat → Nat) (hq : ∀ j (h : j < pre.length), q (j + 1) = q j + c pre[j].2) (hqe : ∀ j, pre.length ≤ j → q j = q pre.length) (hqm : ∀ j, q j ≤ 4611686018427387904) {r : Int × Bool}
    (hn : Ev (fun k => index_Of.l0 k R x1 csl ((q pre.length : Nat) : Int) (e.2 : Int) (x1.size : Int) (Go.RowKit.wrap64 ((i : Int) + 1))) r) :
    ∀ (d j : Nat), j + d = es.length → Ev (fun k => index_Of.l1 k R x1 csl ((q j : Nat) : Int) (i : Int) (if j ≤ pre.length then 0 else (e.2 : Int)) (x1.size : Int) (i : Int) (es.map toE) ((es.map toE).length : Int) (j : Int)) r
  | 0, j, hd => by
    have hl : es.length = pre.length + (post.length + 1) := by rw [hs]; simp
    rw [hqe j (by omega), if_neg (by omega)]
    refine Ev.step (fun k => ?_) hn
    simp only [index_Of.l1]
    rw [if_neg (by rw [List.length_map]; omega)]
  | d + 1, j, hd => by
    have ih := of_l1 x1 i hi es pre post e B hs he hB hpre hpost hlen hrd q hq hqe hqm hn d (j + 1) (by omega)
    have hl : es.length = pre.length + (post.length + 1) := by rw [hs]; simp
    have hj : j < es.length := by omega
    obtain ⟨hr1, hr2_⟩ := hrd _ (List.getElem_mem hj)
    have HB := Aside0.mk hB
    have hr2 := Aside0.mk hr2_
    clear hr2_ hB
    have hw := Aside0.mk (show Go.RowKit.wrap64 ((j : Int) + 1) = ((j + 1 : Nat) : Int) by rw [wx (by omega) (by omega)]; omega)
    have hg : (es.map toE)[j]'(by rw [List.length_map]; exact hj) = toE es[j] := List.getElem_map ..
    have q1 : (j : Int) < ((es.map toE).length : Int) := by rw [List.length_map]; omega
    have q2 : (0 : Int) ≤ (j : Int) := by omega
    have q3 : (0 : Int) ≤ (i : Int) := by omega
    have q4 : (i : Int) < (x1.size : Int) := by omega
    refine Ev.step (fun k => ?_) ih
    simp only [index_Of.l1]
    rw [if_pos q1, if_pos q2, if_pos q1, if_pos q3, if_pos q4, rdS33 _ j (by rw [List.length_map]; exact hj), hg, HB.out, hw.out]
    rw [toE_f0, toE_f1]
    by_cases c1 : j < pre.length
    · have hget : es[j] = pre[j] := by simp only [hs]; rw [List.getElem_append_left c1]
      have hlt := hpre _ (List.getElem_mem c1)
      have hq1 := hq j c1
      have hq2 := hqm (j + 1)
      rw [hget] at hr1 hr2 ⊢
      generalize pre[j] = pj at hr1 hr2 hlt hq1
      clear hq hqe hqm hrd hpre hpost hs hget
      have z1 : ((pj.1 : Nat) : Int) < (B : Int) := by omega
      have z2 : (0 : Int) ≤ ((pj.2 : Nat) : Int) := by omega
      have z3 : ((pj.2 : Nat) : Int) < (csl.length : Int) := by omega
      have z4 : j ≤ pre.length := by omega
      have z5 : j + 1 ≤ pre.length := by omega
      have z6 : IntKind.u64.wrap (((q j : Nat) : Int) + ((c pj.2 : Nat) : Int)) = ((q (j + 1) : Nat) : Int) := by rw [u64_small (by omega) (by omega)]; omega
      rw [if_pos z1, if_pos z2, if_pos z3, hr2.out, if_pos z4, if_pos z5, z6]
    · by_cases c2 : j = pre.length
      · have hget : es[j] = e := by
          simp only [hs]
          subst c2
          simp
        have hq1 := hqe (j + 1) (by omega)
        rw [hget, he, if_neg (Int.lt_irrefl _), if_pos rfl, hq1, if_neg (show ¬ j + 1 ≤ pre.length by omega)]
        rw [show q j = q pre.length from hqe j (by omega)]
      · have hget : es[j] ∈ post := by
          have h1 : es[j] = (e :: post)[j - pre.length]'(by simp; omega) := by simp only [hs]; rw [List.getElem_append_right (by omega)]
          rw [h1]
          obtain ⟨m, hm⟩ : ∃ m, j - pre.length = m + 1 := ⟨j - pre.length - 1, by omega⟩
          simp only [hm, List.getElem_cons_succ]
          exact List.getElem_mem _
        have hgt := hpost _ hget
        have z1 : ¬ ((es[j].1 : Nat) : Int) < (B : Int) := by omega
        have z2 : ¬ ((es[j].1 : Nat) : Int) = (B : Int) := by omega
        rw [if_neg z1, if_neg z2, hqe j (by omega), hqe (j + 1) (by omega), if_neg (show ¬ j + 1 ≤ pre.length by omega), if_neg (show ¬ j ≤ pre.length by omega)]
theorem of_l0 (h : Known b) (x1 : ByteArray) (hx : x1.size ≤ 140737488355328) : ∀ (d i at_ below : Nat), i + d = x1.size → at_ < b.length → below + Daw.cnt b at_ ≤ 4611686018427387904 → (Utf.nats x1).drop i ∈ wl b at_ →
    Ev (fun k => index_Of.l0 k (b.map toS) x1 (csL (Daw.cnt b) b.length) (below : Int) (at_ : Int) (x1.size : Int) (i : Int)) (((below + (wl b at_).idxOf ((Utf.nats x1).drop i) : Nat) : Int), true)
  | 0, i, at_, below, hd, hat, hb, hv => by
    have hl : (Utf.nats x1).length = x1.size := by simp [Utf.nats]
    have e : (Utf.nats x1).drop i = [] := List.drop_eq_nil_of_le (by omega)
    rw [e] at hv ⊢
    rw [place_nil h.good hat hv, Nat.add_zero]
    have z1 : ¬ (i : Int) < (x1.size : Int) := by omega
    have z2 : Go.RowKit.wrap64 (below : Int) = (below : Int) := by clear hv e hl hd; exact wx (by omega) (by omega)
    refine Ev.step (f := fun _ => some ((below : Int), true)) (fun k => ?_) (Ev.now _)
    simp only [index_Of.l0]
    rw [if_neg z1, z2]
  | d + 1, i, at_, below, hd, hat, hb, hv => by
    have hi : i < x1.size := by omega
    have hB_ := bt_nats x1 i hi
    rw [nats_drop x1 i hi] at hv ⊢
    generalize (Utf.nats x1).getD i 0 = B at hv hB_ ⊢
    have hB := Aside0.mk hB_
    clear hB_
    have hacc := (mem_wl h.good hat _).1 hv
    rw [acc_at (s := b[at_]) (List.getElem?_eq_getElem hat)] at hacc
    have hrow := (h.good.2 at_ _ (List.getElem?_eq_getElem hat)).1
    have haccs : accS b b[at_] (B :: (Utf.nats x1).drop (i + 1)) = match fnd b[at_] B with | some e => acc b e.2 ((Utf.nats x1).drop (i + 1)) | none => false := rfl
    rw [haccs] at hacc
    clear haccs
    cases hf : fnd b[at_] B with
    | none => rw [hf] at hacc; cases hacc
    | some e =>
      rw [hf] at hacc
      obtain ⟨pre, post, hs, he, hpre, hpost⟩ := fnd_split hrow.2 hf
      have hem : e ∈ b[at_].2 := by rw [hs]; simp
      have hlow := h.cnt.low at_ hat e hem
      have he2 : e.2 < b.length := by omega
      have hv2 : (Utf.nats x1).drop (i + 1) ∈ wl b e.2 := (mem_wl h.good he2 _).2 hacc
      have hpl_ := place_cons h.good hat hs he hpre hv2
      have heq_ := h.cnt.eq at_ hat
      have hsum_ : (b[at_].2.map fun f => Daw.cnt b f.2).sum = (pre.map fun f => Daw.cnt b f.2).sum + (Daw.cnt b e.2 + (post.map fun f => Daw.cnt b f.2).sum) := by rw [hs, List.map_append, List.sum_append]; simp
      have heq := Aside0.mk heq_; have hsum := Aside0.mk hsum_; have hpl := Aside0.mk hpl_
      clear heq_ hsum_ hpl_
      have hfew := h.cnt.few at_ hat
      have hrd : ∀ f ∈ b[at_].2, f.2 < (csL (Daw.cnt b) b.length).length ∧ rd (csL (Daw.cnt b) b.length) (f.2 : Int) = ((Daw.cnt b f.2 : Nat) : Int) := fun f hf => by
        have := h.cnt.low at_ hat f hf
        have hlt : f.2 < b.length := by omega
        exact ⟨by rw [csL_len]; exact hlt, rd_cs h f.2 hlt⟩
      obtain ⟨q, hq⟩ : ∃ q : Nat → Nat, q = fun j => below + (own b[at_] + ((pre.take j).map fun f => Daw.cnt b f.2).sum) := ⟨_, rfl⟩
      have q0_ : q 0 = below + own b[at_] := by rw [hq]; simp
      have qpl_ : q pre.length = below + (own b[at_] + (pre.map fun f => Daw.cnt b f.2).sum) := by rw [hq]; simp only [List.take_length]
      have q0 := Aside0.mk q0_; have qpl := Aside0.mk qpl_
      clear q0_ qpl_
      have qs : ∀ j (h : j < pre.length), q (j + 1) = q j + Daw.cnt b pre[j].2 := fun j hj => by
        rw [hq]
        show below + (own b[at_] + ((pre.take (j + 1)).map fun f => Daw.cnt b f.2).sum) = below + (own b[at_] + ((pre.take j).map fun f => Daw.cnt b f.2).sum) + Daw.cnt b pre[j].2
        rw [sum_take_succ (fun f => Daw.cnt b f.2) pre j hj]
        generalize ((pre.take j).map fun f => Daw.cnt b f.2).sum = X
        generalize Daw.cnt b pre[j].2 = Y
        omega
      have qe : ∀ j, pre.length ≤ j → q j = q pre.length := fun j hj => by
        rw [hq]
        show below + (own b[at_] + ((pre.take j).map fun f => Daw.cnt b f.2).sum) = below + (own b[at_] + ((pre.take pre.length).map fun f => Daw.cnt b f.2).sum)
        rw [List.take_of_length_le hj, List.take_length]
      have qm : ∀ j, q j ≤ q pre.length := fun j => by
        rw [qpl.out, hq]
        show below + (own b[at_] + ((pre.take j).map fun f => Daw.cnt b f.2).sum) ≤ _
        have := sum_take_le (fun f => Daw.cnt b f.2) pre j
        generalize ((pre.take j).map fun f => Daw.cnt b f.2).sum = X at this ⊢
        generalize (pre.map fun f => Daw.cnt b f.2).sum = Y at this ⊢
        omega
      clear hq
      have hb2 := hb
      rw [heq.out, hsum.out] at hb2
      have HB2 := Aside0.mk hb2
      clear hb2
      have hbq : q pre.length + Daw.cnt b e.2 ≤ 4611686018427387904 := by
        have hb := HB2.out
        rw [qpl.out]
        clear qm qe qs q0 qpl heq hsum hpl hlow hfew hB HB2
        generalize (pre.map fun f => Daw.cnt b f.2).sum = X at hb ⊢
        generalize (post.map fun f => Daw.cnt b f.2).sum = Y at hb
        generalize Daw.cnt b e.2 = Z at hb ⊢
        generalize own b[at_] = W at hb ⊢
        omega
      have ih := of_l0 h x1 hx d (i + 1) e.2 (q pre.length) (by omega) he2 hbq hv2
      have hw_ : Go.RowKit.wrap64 ((i : Int) + 1) = ((i + 1 : Nat) : Int) := by rw [wx (by omega) (by omega)]; omega
      rw [← hw_] at ih
      clear hw_
      have hqm : ∀ j, q j ≤ 4611686018427387904 := fun j => Nat.le_trans (qm j) (Nat.le_trans (Nat.le_add_right _ _) hbq)
      have h1 := of_l1 (R := b.map toS) x1 i hi b[at_].2 pre post e B hs he hB.out hpre hpost hfew hrd q qs qe hqm ih b[at_].2.length 0 (by omega)
      rw [if_pos (Nat.zero_le _)] at h1
      have hres : below + (wl b at_).idxOf (B :: (Utf.nats x1).drop (i + 1)) = q pre.length + (wl b e.2).idxOf ((Utf.nats x1).drop (i + 1)) := by
        rw [hpl.out, qpl.out]
        generalize (wl b e.2).idxOf ((Utf.nats x1).drop (i + 1)) = X
        generalize (pre.map fun f => Daw.cnt b f.2).sum = Y
        generalize own b[at_] = W
        omega
      rw [hres]
      refine Ev.step (fun k => ?_) h1
      have z0 : (i : Int) < (x1.size : Int) := by omega
      have z1 : (0 : Int) ≤ (at_ : Int) := by omega
      have z2 : (at_ : Int) < ((b.map toS).length : Int) := by rw [List.length_map]; omega
      have z3 : IntKind.u64.wrap ((below : Int) + ((own b[at_] : Nat) : Int)) = ((q 0 : Nat) : Int) := by
        have := hqm 0
        rw [q0.out] at this ⊢
        generalize own b[at_] = W at this ⊢
        rw [u64_small (by omega) (by omega)]; omega
      simp only [index_Of.l0]
      rw [if_pos z0, if_pos z1, if_pos z2, rdS31 _ at_ (by rw [List.length_map]; exact hat), toS_get at_ hat, own_f, Option.bind_some, z3]
      rfl
/-- index.Of: a word's place. -/
theorem of_ev (h : Known b) (hm : daw_May.f (b.map toS) = some true) (h0 : 0 < b.length) (x1 : ByteArray) (hx : x1.size ≤ 140737488355328) (hh : daw_Has.f (b.map toS) x1 = some (decide (Utf.nats x1 ∈ wl b (b.length - 1)))) :
    Ev (fun k => index_Of.f k (b.map toS) x1) (if Utf.nats x1 ∈ wl b (b.length - 1) then (((wl b (b.length - 1)).idxOf (Utf.nats x1) : Nat) : Int) else 0, decide (Utf.nats x1 ∈ wl b (b.length - 1))) := by
  unfold index_Of.f
  refine Ev.bind (counts_ev h.cnt hm) ?_
  have hlen := h.cnt.len
  by_cases hv : Utf.nats x1 ∈ wl b (b.length - 1)
  · rw [if_pos hv, decide_eq_true hv]
    have hle := h.cnt.le (b.length - 1) (by omega)
    have hof := of_l0 h x1 hx x1.size 0 (b.length - 1) 0 (by omega) (by omega) (by omega) hv
    rw [Nat.zero_add] at hof
    refine Ev.congr (f := fun k => index_Of.j0 k (b.map toS) x1 (csL (Daw.cnt b) b.length) false) (fun k => ?_) (Ev.step (fun k => ?_) hof)
    · rw [if_pos rfl, hh, decide_eq_true hv, Option.bind_some]; rfl
    · simp only [index_Of.j0]
      rw [if_neg (by decide), List.length_map, wx (by omega) (by omega), show ((b.length : Int) - 1) = ((b.length - 1 : Nat) : Int) from by omega]
      rfl
  · rw [if_neg hv, decide_eq_false hv]
    refine Ev.congr (f := fun k => index_Of.j0 k (b.map toS) x1 (csL (Daw.cnt b) b.length) true) (fun k => ?_) (Ev.step (f := fun _ => some (0, false)) (fun k => ?_) (Ev.now _))
    · rw [if_pos rfl, hh, decide_eq_false hv, Option.bind_some]; rfl
    · simp only [index_Of.j0]; rw [if_pos trivial]
end
end Go.Proofs.Ytgebhidpkcjpmaa.K

namespace Go.Proofs.Ytgebhidpkcjpmaa.K
open Go.RowKit Go.Proofs.YtgebhidpkcjpmaaW.PrintWords Go.Proofs.YtgebhidpkcjpmaaW.PrintLast Go.Proofs.YtgebhidpkcjpmaaW.PrintMore Go.Proofs.Ytgebhidpkcjpmaa
attribute [local go_sem] max2_int min2_int max_two min_two max_three min_three max_four min_four
set_option linter.unusedVariables false
set_option linter.unusedSimpArgs false
open Go.Proofs.Ytgebhidpkcjpmaa.PDk Go.Proofs.Ytgebhidpkcjpmaa.PDm Go.Proofs.Ytgebhidpkcjpmaa.PIx Go.Proofs.Ytgebhidpkcjpmaa.Daw
def intsL (w : List Nat) : List Int := w.map Int.ofNat
section
variable {b : List DS}
end
end Go.Proofs.Ytgebhidpkcjpmaa.K

