/- FileBack. (The texts that the proof is made of, one behind the other: part 11 of 18.) -/
import Derived.Test.YtgebhidpkcjpmaaProg
import Derived.Below
import Derived.Deep.Draws
import Derived.Deep.AppendLies
import Derived.Maps.AppendAt
import Derived.OwnWalk
import Derived.Laws.BytesArg
import Derived.Laws.MakeOwn
import Derived.Laws.OwnMore
import Derived.Deep.OwnRows
import Derived.Tactics
import Derived.Lib.ConvBytes
import Derived.Laws.Slices
import Derived.WalkKit
import Derived.KernelRfl
import Derived.RowKit3
import Derived.Deep.LoopGhost
import Derived.Deep.QuietTactic
import Derived.BigQuiet
import Derived.WideLaws
import Derived.Deep.DeepCutAuto
import Derived.Deep.CutBlock
import Derived.Deep.RegionHeld3
import Derived.Laws.Rows
import Derived.Lib.AppendStr
import Derived.ArgAppend
import Derived.Laws.IdiomCopy
import Derived.OrdersHeld
import Derived.Laws.BitsLemmas
import Derived.RowKit
import Derived.Lib.OthersKept
import Derived.WalkSmall
import Derived.Deep.RegionLaw
import Derived.BigRegion
import Derived.RangeFuncBox
import Derived.RangeFuncLeaves
import Derived.RangeFuncGives
import Derived.RangeFuncStops
import Derived.RangeFuncNested
import Derived.RangeFuncBound
import Derived.Shelf.Abstract
import Derived.Sort.MapsRangeIn
import Derived.Sort.KeysCollected
import Derived.OwnWalkIn
import Derived.TacticsInMore
import Derived.LoopNIn
import Derived.LoopIn
import Derived.Maps.OwnIn
import Derived.Shelf.SlSortCmp.NoneTotal
import Derived.Shelf.SlLaysF
import Derived.Shelf.SlGeneric
import Derived.Ground.SlsfProg
import Derived.Test.YtgebhidpkcjpmaaZFileBacka
import Derived.Test.YtgebhidpkcjpmaaZFileBackb
import Derived.Test.YtgebhidpkcjpmaaZFileBackc
import Derived.Test.YtgebhidpkcjpmaaZFileBackd
import Derived.Test.YtgebhidpkcjpmaaZFileBacke
import Derived.Test.YtgebhidpkcjpmaaZFileBackf
import Derived.Test.YtgebhidpkcjpmaaZFileBackg
import Derived.Test.YtgebhidpkcjpmaaZFileBackh
import Derived.Test.YtgebhidpkcjpmaaZFileBacki
import Derived.Test.YtgebhidpkcjpmaaZFileBackj
namespace Go.Proofs.Ytgebhidpkcjpmaa.PLg
open Go.RowKit Go.Proofs.YtgebhidpkcjpmaaW.PrintWords Go.Proofs.YtgebhidpkcjpmaaW.PrintLast Go.Proofs.YtgebhidpkcjpmaaW.PrintMore Go.Proofs.Ytgebhidpkcjpmaa.K Go.Proofs.Ytgebhidpkcjpmaa.PDk Go.Proofs.Ytgebhidpkcjpmaa.PDm Go.Proofs.Ytgebhidpkcjpmaa.PFl Go.Proofs.Ytgebhidpkcjpmaa.PR13
attribute [local go_sem] max2_int min2_int max_two min_two max_three min_three max_four min_four   -- for this text's walks alone
set_option linter.unusedVariables false
set_option linter.unusedSimpArgs false

mutual
def file_longest.l0 : Nat → List (S82) → List Int → List (S82) → Int → Int → Option (Int)
  | 0, _, _, _, _, _ => none
  | k + 1, x0, x3, x11, x12, x13 => if x13 < x12 then (if 0 ≤ x13 then (if x13 < (x11.length : Int) then (file_longest.l1 k x0 x3 x13 x11 x12 x13 ((rd_T82 x11 x13).f1) (((rd_T82 x11 x13).f1).length : Int) 0) else (none)) else (none)) else (if 0 ≤ (wrap64 ((x0.length : Int) - 1)) then (if (wrap64 ((x0.length : Int) - 1)) < (x3.length : Int) then (some (rd x3 (wrap64 ((x0.length : Int) - 1)))) else (none)) else (none))
def file_longest.l1 : Nat → List (S82) → List Int → Int → List (S82) → Int → Int → List (S84) → Int → Int → Option (Int)
  | 0, _, _, _, _, _, _, _, _, _ => none
  | k + 1, x0, x3, x4, x11, x12, x13, x19, x20, x21 => if x21 < x20 then (if 0 ≤ x21 then (if x21 < (x19.length : Int) then (if 0 ≤ x4 then (if x4 < (x3.length : Int) then (if 0 ≤ ((rd_T84 x19 x21).f1) then (if ((rd_T84 x19 x21).f1) < (x3.length : Int) then (file_longest.l1 k x0 (x3.set (x4 : Int).toNat (mx (rd x3 x4) (wrap64 ((rd x3 ((rd_T84 x19 x21).f1)) + 1)))) x4 x11 x12 x13 x19 x20 (wrap64 (x21 + 1))) else (none)) else (none)) else (none)) else (none)) else (none)) else (none)) else (file_longest.l0 k x0 x3 x11 x12 (wrap64 (x13 + 1)))
end
def file_longest.f (k : Nat) (l0 : List (S82)) : Option (Int) := if 0 ≤ (l0.length : Int) then (if ((l0.length : Int) : Int).toNat ≤ 35184372088832 then (file_longest.l0 k l0 (List.replicate ((l0.length : Int) : Int).toNat 0) l0 (l0.length : Int) 0) else (none)) else (none)
def file_longest.T8 : Bool × List (List Nat × List Nat) := (true, [([], []), ([], []), ([], []), ([], []), ([2, 3], [2, 3]), ([4], [4]), ([], []), ([], []), ([7], [7]), ([6, 8], [6, 8]), ([9], [9]), ([10], [10]), ([5, 11], [5, 11]), ([0, 1, 0, 1, 2, 3, 4, 5, 6, 7, 8, 9, 10, 11, 12], [0, 1]), ([13, 12, 0, 1, 2, 3, 4, 5, 6, 7, 8, 9, 10, 11, 12], [12, 13])])
def file_longest.B8 : List Nat := [0, 0, 0, 0, 12, 28, 0, 0, 128, 448, 960, 1984, 4092, 8191, 16383]
theorem file_longest.tab8 : rtab .any (opsOf Try.f69 8) = file_longest.T8 := by kernel_rfl
theorem file_longest.bits8 : waitsOk file_longest.T8.2 file_longest.B8 = true := by kernel_rfl
set_option maxHeartbeats 8000000 in
set_option maxRecDepth 100000 in
theorem file_longest.calls (k : Nat) (A0 : Option Addr) (c0 : Nat) (l0 : List (S82)) (r : Int) (w : World) (hr0 : Kd.C k82 w A0 l0.length l0) (hc0 : l0.length ≤ c0) (h : file_longest.f k l0 = some r) :
    Calls Try.prog 69 #[.slice A0 l0.length c0] w fun e w' => e = .returned (.int .i64 r) ∧ Below w.heap.size w w' := by
  have hu82 := Try.underlying82
  have hu84 := Try.underlying84
  have HR0 := Aside0.mk hr0
  have HC0 := Aside0.mk hc0
  clear hr0 hc0
  have HB := Aside0.mk (Below.refl w.heap.size w)
  have H : (if 0 ≤ (l0.length : Int) then (if ((l0.length : Int) : Int).toNat ≤ 35184372088832 then (file_longest.l0 k l0 (List.replicate ((l0.length : Int) : Int).toNat 0) l0 (l0.length : Int) 0) else (none)) else (none)) = some r := h
  clear h
  by_cases c2 : 0 ≤ (l0.length : Int)
  · rw [if_pos c2] at H
    have c2b0 := eq_true c2
    have c2b1 : decide (0 ≤ (l0.length : Int)) = true := decide_eq_true c2
    clear c2
    by_cases c3 : ((l0.length : Int) : Int).toNat ≤ 35184372088832
    · rw [if_pos c3] at H
      have c3b0 := eq_true c3
      have c3b1 : decide (((l0.length : Int) : Int).toNat ≤ 35184372088832) = true := decide_eq_true c3
      clear c3
      obtain ⟨y101, hy101⟩ : ∃ y_ : List Int, y_ = (List.replicate ((l0.length : Int) : Int).toNat 0) := ⟨_, rfl⟩
      replace H : (file_longest.l0 k l0 y101 l0 (l0.length : Int) 0) = some r := by first | (rw [hy101]; with_reducible exact H) | (have H2_ := (Option.bind_some _ _).symm.trans H; rw [hy101]; with_reducible exact H2_) | (have H2_ := (Option.bind_some _ _).symm.trans H; with_reducible exact H2_) | with_reducible exact H | (rw [hy101]; exact H) | exact H
      have Ny101 := Aside0.mk hy101
      clear hy101
      have H' := Aside0.mk H
      clear H
      go_enter Try.func69, Try.ntmps69
      go_wp2_with (first | ((with_reducible refine gate_dst (N := 10) rfl ?_); refine Kd.R_make (Kd.int .i64) _ 3 rfl (N := 10) rfl 27 _ _ rfl (l0.length : Int) rfl rfl Try.underlying27 (.int .i64 0) 8 info3 rfl (by decide) (by omega) 0 (ok := fun _ => True) (okp := fun _ => True) rfl (fun _ hk => hk) trivial (of_decide_eq_true (by first | (with_reducible assumption) | assumption)) (Nat.le_trans (Nat.mul_le_mul_right _ (of_decide_eq_true (by first | (with_reducible assumption) | assumption) : (l0.length : Int).toNat ≤ 35184372088832)) (by omega)) (Below.refl _ _) (Nat.le_refl _) ?_; intro v102 w4 ho5 hb hg_ hnew_; clear hg_ hnew_; (first | rw [← Ny101.out] at ho5 | (simp only [Int.reduceToNat] at ho5; rw [← Ny101.out] at ho5)); have n0_ := Aside0.mk (Kd.R_lower ho5 (below_size (by repeat (first | (with_reducible first | exact HB.out | apply below_alloc | apply pw_below_drewN | apply below_drew1) | exact HB.out)))); have n1_ := Aside0.mk (below_step (by repeat (first | (with_reducible first | exact HB.out | apply below_alloc | apply pw_below_drewN | apply below_drew1) | exact HB.out)) hb); clear HB; have HO103 := n0_; have HB := n1_; clear n0_ n1_; clear hb ho5))
      go_loopg [13] k (fun kq v13 w' => ∃ (x3_1 : List Int) (x13_1 : Int), v13 = .int .i64 x13_1 ∧ Aside0 (file_longest.l0 kq l0 x3_1 l0 (l0.length : Int) x13_1 = some r) ∧ Aside0 (kq ≤ k) ∧ Aside0 (Kd.R (Kd.int .i64) 3 w' w.heap.size (fun _ => True) v102 x3_1) ∧ Aside0 (Below w.heap.size w w'))
      case atStart => exact ⟨(y101), (0), (by first | rfl | (simp; done) | (simp [*]; done)), H', ⟨Nat.le_refl _⟩, ⟨by (with_reducible repeat (first | apply Kd.R_alloc | apply Kd.R_drewN | apply Kd.R_drew)); exact HO103.out⟩, ⟨by repeat (first | (with_reducible first | exact HB.out | apply below_alloc | apply pw_below_drewN | apply below_drew1) | exact HB.out)⟩⟩
      case round =>
        clear H'
        try clear c2
        try clear c2b0
        try clear c2b1
        try clear p2
        try clear c3
        try clear c3b0
        try clear c3b1
        obtain ⟨x3_1, x13_1, rfl, HA, HK1, HO_3, HB⟩ := hrel
        cases gk with
        | zero => exact absurd HA.out (by simp [file_longest.l0])
        | succ k1 =>
          have H := HA.out
          clear HA
          simp only [file_longest.l0] at H
          by_cases c6 : x13_1 < (l0.length : Int)
          · rw [if_pos c6] at H
            have c6b0 : decide (x13_1 < (l0.length : Int)) = true := decide_eq_true c6
            clear c6
            by_cases c7 : 0 ≤ x13_1
            · rw [if_pos c7] at H
              have c7b0 : decide (0 ≤ x13_1) = true := decide_eq_true c7
              clear c7
              by_cases c8 : x13_1 < (l0.length : Int)
              · rw [if_pos c8] at H
                have c8b0 : decide (x13_1 < (l0.length : Int)) = true := decide_eq_true c8
                clear c8
                have H' := Aside0.mk H
                clear H
                have p105 : 0 ≤ (x13_1 : Int) := of_decide_eq_true (by first | (with_reducible assumption) | assumption)
                have q105 : x13_1 < (l0.length : Int) := of_decide_eq_true (by first | (with_reducible assumption) | assumption)
                obtain ⟨ad105, A105_1, c105_1, e105, hx105_0, hx105_1, hl105_1, hi105_1⟩ := at_T82 HR0.out x13_1 p105 q105
                cases e105
                replace hx105_0 := (HB.out.cell (World.block_lt_of_cell? w _ hx105_0)).trans hx105_0
                replace hx105_1 := (HB.out.cell (World.block_lt_of_cell? w _ hx105_1)).trans hx105_1
                have HR105_1 := Aside0.mk hi105_1
                have HC105_1 := Aside0.mk hl105_1
                clear hi105_1 hl105_1
                replace p105 := eq_true p105
                replace q105 := eq_true q105
                go_wp2_with (first | ((with_reducible refine gate_dst (N := 5) rfl ?_); refine box_event ?hg (N := 5) ?hd (cs := #[.bool false, .slice none 0 0]) (t := 82) ?hr ?_; (case hd => rfl); (case hg => rfl); (case hr => first | (go_simp; done) | (go_simp; rfl)); intro gb106 hg w9 hbox hb; have n0_ := Aside0.mk (Kd.R_below (by (with_reducible repeat (first | apply Kd.R_alloc | apply Kd.R_drewN | apply Kd.R_drew)); exact HO_3.out) hb); have n1_ := Aside0.mk (below_step (by repeat (first | (with_reducible first | exact HB.out | apply below_alloc | apply pw_below_drewN | apply below_drew1) | exact HB.out)) hb); have n2_ := Aside0.mk (hbox); have n3_ := Aside0.mk ((by rw [hg]; exact (below_size (by repeat (first | (with_reducible first | exact HB.out | apply below_alloc | apply pw_below_drewN | apply below_drew1) | exact HB.out))) : w.heap.size ≤ gb106)); have n4_ := Aside0.mk ((by rw [hg]; exact (below_size (by repeat (first | (with_reducible first | exact HB.out | apply below_alloc | apply pw_below_drewN | apply below_drew1) | exact HB.out))) : w.heap.size ≤ gb106)); clear HO_3; clear HB; have HO_3 := n0_; have HB := n1_; have BK106 := n2_; have GW106 := n3_; have GE106 := n4_; clear n0_ n1_ n2_ n3_ n4_; clear hb hbox hg; have hcz10_0 : w9.cell? ⟨gb106, 0, none⟩ = some (.bool false) := (blk_cell BK106.out 0).trans rfl; have hcz10_1 : w9.cell? ⟨gb106, 1, none⟩ = some (.slice none 0 0) := (blk_cell BK106.out 1).trans rfl; have hfz10_0 := blk_frozen BK106.out 0; have hfz10_1 := blk_frozen BK106.out 1))
                go_loopg [21] k1 (fun kq v21 w' => ∃ (x3_2 : List Int) (x21_2 : Int), v21 = .int .i64 x21_2 ∧ Aside0 (file_longest.l1 kq l0 x3_2 x13_1 l0 (l0.length : Int) x13_1 ((rd_T82 l0 x13_1).f1) (((rd_T82 l0 x13_1).f1).length : Int) x21_2 = some r) ∧ Aside0 (kq ≤ k1) ∧ Aside0 (Kd.R (Kd.int .i64) 3 w' w.heap.size (fun _ => True) v102 x3_2) ∧ Aside0 (w'.heap[gb106]? = some (.cells #[.bool ((rd_T82 l0 x13_1).f0), (.slice A105_1 ((rd_T82 l0 x13_1).f1).length c105_1)] 82 (0, 0))) ∧ Aside0 (Below w.heap.size w w'))
                case atStart => exact ⟨(x3_1), (0), (by first | rfl | (simp; done) | (simp [*]; done)), H', ⟨Nat.le_refl _⟩, ⟨by (with_reducible repeat (first | apply Kd.R_alloc | apply Kd.R_drewN | apply Kd.R_drew)); exact Kd.R_mono (Kd.R_far (p := ⟨gb106, 1, none⟩) (Kd.R_far (p := ⟨gb106, 0, none⟩) (Kd.R_types HO_3.out BK106.out (by decide)) (fun _ hk => hk.2) (.bool ((rd_T82 l0 x13_1).f0))) (fun _ hk => hk.2) (.slice A105_1 ((rd_T82 l0 x13_1).f1).length c105_1)) (fun _ hk => trivial)⟩, ⟨by (with_reducible repeat (first | refine blk_drewN ?_ _ | refine blk_drew ?_ | refine blk_alloc ?_ _)); refine blk_put (cs := #[.bool ((rd_T82 l0 x13_1).f0), .slice none 0 0]) ?_ 1 _ rfl; (with_reducible repeat (first | refine blk_drewN ?_ _ | refine blk_drew ?_ | refine blk_alloc ?_ _)); refine blk_put (cs := #[.bool false, .slice none 0 0]) ?_ 0 _ rfl; (with_reducible repeat (first | refine blk_drewN ?_ _ | refine blk_drew ?_ | refine blk_alloc ?_ _)); exact BK106.out⟩, ⟨by repeat (first | (with_reducible first | exact HB.out | apply below_alloc | apply pw_below_drewN | apply below_drew1 | refine below_set ?_ GE106.out) | exact HB.out)⟩⟩
                case round =>
                  clear H'
                  try clear c1
                  try clear p1
                  try clear q1
                  try clear hx1
                  try clear c2
                  try clear c2b0
                  try clear c2b1
                  try clear p2
                  try clear c3
                  try clear c3b0
                  try clear c3b1
                  try clear c6
                  try clear c6b0
                  try clear c7
                  try clear c7b0
                  try clear c8
                  try clear c8b0
                  try clear c10
                  try clear p10
                  try clear q10
                  try clear hx10
                  try clear hcz10_0
                  try clear hcz10_1
                  try clear hfz10_0
                  try clear hfz10_1
                  try clear hx105_0
                  try clear hx105_1
                  try clear p105
                  try clear p2
                  try clear q105
                  obtain ⟨x3_2, x21_2, rfl, HA, HK2, HO_3, BK106, HB⟩ := hrel
                  cases gk with
                  | zero => exact absurd HA.out (by simp [file_longest.l1])
                  | succ k2 =>
                    have H := HA.out
                    clear HA
                    simp only [file_longest.l1] at H
                    by_cases c11 : x21_2 < (((rd_T82 l0 x13_1).f1).length : Int)
                    · rw [if_pos c11] at H
                      have c11b0 : decide (x21_2 < (((rd_T82 l0 x13_1).f1).length : Int)) = true := decide_eq_true c11
                      clear c11
                      by_cases c12 : 0 ≤ x21_2
                      · rw [if_pos c12] at H
                        have c12b0 : decide (0 ≤ x21_2) = true := decide_eq_true c12
                        clear c12
                        by_cases c13 : x21_2 < (((rd_T82 l0 x13_1).f1).length : Int)
                        · rw [if_pos c13] at H
                          have c13b0 : decide (x21_2 < (((rd_T82 l0 x13_1).f1).length : Int)) = true := decide_eq_true c13
                          clear c13
                          by_cases c14 : 0 ≤ x13_1
                          · rw [if_pos c14] at H
                            have c14b0 : decide (0 ≤ x13_1) = true := decide_eq_true c14
                            clear c14
                            by_cases c15 : x13_1 < (x3_2.length : Int)
                            · rw [if_pos c15] at H
                              have c15b0 : decide (x13_1 < (x3_2.length : Int)) = true := decide_eq_true c15
                              clear c15
                              by_cases c16 : 0 ≤ ((rd_T84 ((rd_T82 l0 x13_1).f1) x21_2).f1)
                              · rw [if_pos c16] at H
                                have c16b0 : decide (0 ≤ ((rd_T84 ((rd_T82 l0 x13_1).f1) x21_2).f1)) = true := decide_eq_true c16
                                clear c16
                                by_cases c17 : ((rd_T84 ((rd_T82 l0 x13_1).f1) x21_2).f1) < (x3_2.length : Int)
                                · rw [if_pos c17] at H
                                  have c17b0 : decide (((rd_T84 ((rd_T82 l0 x13_1).f1) x21_2).f1) < (x3_2.length : Int)) = true := decide_eq_true c17
                                  clear c17
                                  obtain ⟨ji18, hji18⟩ : ∃ j_ : Int, (mx (rd x3_2 x13_1) (wrap64 ((rd x3_2 ((rd_T84 ((rd_T82 l0 x13_1).f1) x21_2).f1)) + 1))) = j_ := ⟨_, rfl⟩
                                  replace H : (file_longest.l1 k2 l0 (x3_2.set (x13_1 : Int).toNat (ji18)) x13_1 l0 (l0.length : Int) x13_1 ((rd_T82 l0 x13_1).f1) (((rd_T82 l0 x13_1).f1).length : Int) (wrap64 (x21_2 + 1))) = some r := by first | (rw [hji18] at H; exact H) | (simp only [hji18] at H ⊢; exact H)
                                  have hji18_ : (if (rd x3_2 x13_1) < (wrap64 ((rd x3_2 ((rd_T84 ((rd_T82 l0 x13_1).f1) x21_2).f1)) + 1)) then (wrap64 ((rd x3_2 ((rd_T84 ((rd_T82 l0 x13_1).f1) x21_2).f1)) + 1)) else (rd x3_2 x13_1)) = ji18 := hji18
                                  obtain ⟨y111, hy111⟩ : ∃ y_ : List Int, y_ = (x3_2.set (x13_1 : Int).toNat (ji18)) := ⟨_, rfl⟩
                                  replace H : (file_longest.l1 k2 l0 y111 x13_1 l0 (l0.length : Int) x13_1 ((rd_T82 l0 x13_1).f1) (((rd_T82 l0 x13_1).f1).length : Int) (wrap64 (x21_2 + 1))) = some r := by first | (rw [hy111]; with_reducible exact H) | (have H2_ := (Option.bind_some _ _).symm.trans H; rw [hy111]; with_reducible exact H2_) | (have H2_ := (Option.bind_some _ _).symm.trans H; with_reducible exact H2_) | with_reducible exact H | (rw [hy111]; exact H) | exact H
                                  have Ny111 := Aside0.mk hy111
                                  clear hy111
                                  have H' := Aside0.mk H
                                  clear H
                                  have p107 : 0 ≤ (x21_2 : Int) := of_decide_eq_true (by first | (with_reducible assumption) | assumption)
                                  have q107 : x21_2 < (((rd_T82 l0 x13_1).f1).length : Int) := of_decide_eq_true (by first | (with_reducible assumption) | assumption)
                                  obtain ⟨ad107, e107, hx107_0, hx107_1⟩ := at_T84 HR105_1.out x21_2 p107 q107
                                  cases e107
                                  replace hx107_0 := (HB.out.cell (World.block_lt_of_cell? w _ hx107_0)).trans hx107_0
                                  replace hx107_1 := (HB.out.cell (World.block_lt_of_cell? w _ hx107_1)).trans hx107_1
                                  replace p107 := eq_true p107
                                  replace q107 := eq_true q107
                                  try go_wp2_with (first | ((with_reducible refine gate_dst (N := 7) rfl ?_); refine box_event ?hg (N := 7) ?hd (cs := #[.int .u8 0, .int .i64 0]) (t := 84) ?hr ?_; (case hd => rfl); (case hg => rfl); (case hr => first | (go_simp; done) | (go_simp; rfl)); intro gb108 hg w20 hbox hb; have n0_ := Aside0.mk (Kd.R_below (by (with_reducible repeat (first | apply Kd.R_alloc | apply Kd.R_drewN | apply Kd.R_drew)); exact HO_3.out) hb); have n1_ := Aside0.mk (blk_below (g := gb106) (o := .cells #[.bool ((rd_T82 l0 x13_1).f0), .slice (some ad107) ((rd_T82 l0 x13_1).f1).length c105_1] 82 (0, 0)) (by (with_reducible repeat (first | refine blk_drewN ?_ _ | refine blk_drew ?_ | refine blk_alloc ?_ _)); exact BK106.out) hb); have n2_ := Aside0.mk (below_step (by repeat (first | (with_reducible first | exact HB.out | apply below_alloc | apply pw_below_drewN | apply below_drew1 | refine below_set ?_ GE106.out) | exact HB.out)) hb); have n3_ := Aside0.mk (hbox); have n4_ := Aside0.mk ((by rw [hg]; exact (below_size (by repeat (first | (with_reducible first | exact HB.out | apply below_alloc | apply pw_below_drewN | apply below_drew1 | refine below_set ?_ GE106.out) | exact HB.out))) : w.heap.size ≤ gb108)); have n5_ := Aside0.mk ((by rw [hg]; exact (below_size (by repeat (first | (with_reducible first | exact HB.out | apply below_alloc | apply pw_below_drewN | apply below_drew1 | refine below_set ?_ GE106.out) | exact HB.out))) : w.heap.size ≤ gb108)); have n6_ := Aside0.mk ((by rw [hg]; exact Nat.ne_of_lt (blk_lt (g := gb106) (o := .cells #[.bool ((rd_T82 l0 x13_1).f0), .slice (some ad107) ((rd_T82 l0 x13_1).f1).length c105_1] 82 (0, 0)) (by (with_reducible repeat (first | refine blk_drewN ?_ _ | refine blk_drew ?_ | refine blk_alloc ?_ _)); exact BK106.out)) : gb106 ≠ gb108)); have n7_ := Aside0.mk ((by rw [hg]; exact Nat.ne_of_gt (blk_lt (g := gb106) (o := .cells #[.bool ((rd_T82 l0 x13_1).f0), .slice (some ad107) ((rd_T82 l0 x13_1).f1).length c105_1] 82 (0, 0)) (by (with_reducible repeat (first | refine blk_drewN ?_ _ | refine blk_drew ?_ | refine blk_alloc ?_ _)); exact BK106.out)) : gb108 ≠ gb106)); clear HO_3; clear BK106; clear HB; have HO_3 := n0_; have BK106 := n1_; have HB := n2_; have BK108 := n3_; have GW108 := n4_; have GE108 := n5_; have NB106_108 := n6_; have NB108_106 := n7_; clear n0_ n1_ n2_ n3_ n4_ n5_ n6_ n7_; clear hb hbox hg; have hnb21 := NB108_106.out; have hnc21 := NB106_108.out; have hcz22_0 : w20.cell? ⟨gb108, 0, none⟩ = some (.int .u8 0) := (blk_cell BK108.out 0).trans rfl; have hcz22_1 : w20.cell? ⟨gb108, 1, none⟩ = some (.int .i64 0) := (blk_cell BK108.out 1).trans rfl; have hfz22_0 := blk_frozen BK108.out 0; have hfz22_1 := blk_frozen BK108.out 1))
                                  have n0_ : Aside0 (Kd.R (Kd.int .i64) 3 ((w20.setCell ⟨gb108, 0, none⟩ (.int .u8 ((rd_T84 ((rd_T82 l0 x13_1).f1) x21_2).f0))).setCell ⟨gb108, 1, none⟩ (.int .i64 ((rd_T84 ((rd_T82 l0 x13_1).f1) x21_2).f1))) w.heap.size (fun _ => True) v102 x3_2) := ⟨by (with_reducible repeat (first | apply Kd.R_alloc | apply Kd.R_drewN | apply Kd.R_drew)); exact Kd.R_mono (Kd.R_far (p := ⟨gb108, 1, none⟩) (Kd.R_far (p := ⟨gb108, 0, none⟩) (Kd.R_types HO_3.out BK108.out (by decide)) (fun _ hk => hk.2) (.int .u8 ((rd_T84 ((rd_T82 l0 x13_1).f1) x21_2).f0))) (fun _ hk => hk.2) (.int .i64 ((rd_T84 ((rd_T82 l0 x13_1).f1) x21_2).f1))) (fun _ hk => trivial)⟩
                                  have n1_ : Aside0 (((w20.setCell ⟨gb108, 0, none⟩ (.int .u8 ((rd_T84 ((rd_T82 l0 x13_1).f1) x21_2).f0))).setCell ⟨gb108, 1, none⟩ (.int .i64 ((rd_T84 ((rd_T82 l0 x13_1).f1) x21_2).f1))).heap[gb106]? = some (.cells #[.bool ((rd_T82 l0 x13_1).f0), .slice (some ad107) ((rd_T82 l0 x13_1).f1).length c105_1] 82 (0, 0))) := ⟨by (with_reducible repeat (first | refine blk_drewN ?_ _ | refine blk_drew ?_ | refine blk_alloc ?_ _)); refine blk_far ?_ NB106_108.out _; (with_reducible repeat (first | refine blk_drewN ?_ _ | refine blk_drew ?_ | refine blk_alloc ?_ _)); refine blk_far ?_ NB106_108.out _; (with_reducible repeat (first | refine blk_drewN ?_ _ | refine blk_drew ?_ | refine blk_alloc ?_ _)); exact BK106.out⟩
                                  have n2_ : Aside0 (((w20.setCell ⟨gb108, 0, none⟩ (.int .u8 ((rd_T84 ((rd_T82 l0 x13_1).f1) x21_2).f0))).setCell ⟨gb108, 1, none⟩ (.int .i64 ((rd_T84 ((rd_T82 l0 x13_1).f1) x21_2).f1))).heap[gb108]? = some (.cells #[.int .u8 ((rd_T84 ((rd_T82 l0 x13_1).f1) x21_2).f0), .int .i64 ((rd_T84 ((rd_T82 l0 x13_1).f1) x21_2).f1)] 84 (0, 0))) := ⟨by (with_reducible repeat (first | refine blk_drewN ?_ _ | refine blk_drew ?_ | refine blk_alloc ?_ _)); refine blk_put (cs := #[.int .u8 ((rd_T84 ((rd_T82 l0 x13_1).f1) x21_2).f0), .int .i64 0]) ?_ 1 _ rfl; (with_reducible repeat (first | refine blk_drewN ?_ _ | refine blk_drew ?_ | refine blk_alloc ?_ _)); refine blk_put (cs := #[.int .u8 0, .int .i64 0]) ?_ 0 _ rfl; (with_reducible repeat (first | refine blk_drewN ?_ _ | refine blk_drew ?_ | refine blk_alloc ?_ _)); exact BK108.out⟩
                                  have n3_ : Aside0 (Below w.heap.size w ((w20.setCell ⟨gb108, 0, none⟩ (.int .u8 ((rd_T84 ((rd_T82 l0 x13_1).f1) x21_2).f0))).setCell ⟨gb108, 1, none⟩ (.int .i64 ((rd_T84 ((rd_T82 l0 x13_1).f1) x21_2).f1)))) := ⟨by repeat (first | (with_reducible first | exact HB.out | apply below_alloc | apply pw_below_drewN | apply below_drew1 | refine below_set ?_ GE106.out | refine below_set ?_ GE108.out) | exact HB.out)⟩
                                  (try clear HO_3)
                                  (try clear BK106)
                                  (try clear BK108)
                                  (try clear HB)
                                  generalize ((w20.setCell ⟨gb108, 0, none⟩ (.int .u8 ((rd_T84 ((rd_T82 l0 x13_1).f1) x21_2).f0))).setCell ⟨gb108, 1, none⟩ (.int .i64 ((rd_T84 ((rd_T82 l0 x13_1).f1) x21_2).f1))) = w23 at n0_ n1_ n2_ n3_ ⊢
                                  have HO_3 := n0_
                                  have BK106 := n1_
                                  have BK108 := n2_
                                  have HB := n3_
                                  clear n0_ n1_ n2_ n3_
                                  have n0_ := Aside0.mk (Kd.R_drew HO_3.out)
                                  have n1_ := Aside0.mk (blk_drew BK106.out)
                                  have n2_ := Aside0.mk (blk_drew BK108.out)
                                  have n3_ := Aside0.mk (below_drew1 HB.out)
                                  clear HO_3
                                  clear BK106
                                  clear BK108
                                  clear HB
                                  have HO_3 := n0_
                                  have BK106 := n1_
                                  have BK108 := n2_
                                  have HB := n3_
                                  clear n0_ n1_ n2_ n3_
                                  obtain ⟨Ao25, co25, eo25⟩ := Kd.R_slice HO_3.out
                                  (first | subst eo25 | (injection eo25 with f1_ f2_ f3_; have f4_ := f1_.symm; have f5_ := f3_.symm; clear f1_ f2_ f3_; subst f4_; subst f5_))
                                  have p109 : 0 ≤ (x13_1 : Int) := of_decide_eq_true (by first | (with_reducible assumption) | assumption)
                                  have q109 : x13_1 < (x3_2.length : Int) := of_decide_eq_true (by first | (with_reducible assumption) | assumption)
                                  obtain ⟨ad109, e109, hx109_0⟩ := Kd.at_int (Kd.R_reads' HO_3.out).2.2 x13_1 p109 q109
                                  cases e109
                                  replace p109 := eq_true p109
                                  replace q109 := eq_true q109
                                  have p110 : 0 ≤ (((rd_T84 ((rd_T82 l0 x13_1).f1) x21_2).f1) : Int) := of_decide_eq_true (by first | (with_reducible assumption) | assumption)
                                  have q110 : ((rd_T84 ((rd_T82 l0 x13_1).f1) x21_2).f1) < (x3_2.length : Int) := of_decide_eq_true (by first | (with_reducible assumption) | assumption)
                                  obtain ⟨ad110, e110, hx110_0⟩ := Kd.at_int (Kd.R_reads' HO_3.out).2.2 ((rd_T84 ((rd_T82 l0 x13_1).f1) x21_2).f1) p110 q110
                                  obtain rfl : ad109 = ad110 := (by injection e110)
                                  replace p110 := eq_true p110
                                  replace q110 := eq_true q110
                                  have p19 : 0 ≤ (x13_1 : Int) := of_decide_eq_true (by first | (with_reducible assumption) | assumption)
                                  have q19 : (x13_1 : Int) < ((x3_2.length : Int) : Int) := of_decide_eq_true (by first | (with_reducible assumption) | assumption)
                                  obtain ⟨go19, co19, eo19, gb19, gl19, cl19, HG19⟩ := Kd.R_form HO_3.out (by omega)
                                  (first | cases eo19 | (injection eo19 with ea_ en_ ec_; (first | subst ea_ | (injection ea_ with ea_; subst ea_)); subst ec_; clear en_))
                                  have GB19 := Aside0.mk gb19
                                  have GG19 := Aside0.mk HG19
                                  clear gb19 gl19 HG19
                                  (first | simp only [add_plain] at hx109_0 | skip)
                                  (first | simp only [add_plain] at hx110_0 | skip)
                                  obtain ⟨hx19_0, hf19_0⟩ := Kd.R_celln 0 HO_3.out (x13_1 : Int) p19 q19
                                  replace p19 := eq_true p19
                                  replace q19 := eq_true q19
                                  have HP26 := Kd.R_putn HO_3.out (x13_1 : Int) ji18
                                  rw [← Ny111.out] at HP26
                                  have HQ26 := Aside0.mk HP26
                                  clear HP26
                                  refine start_ (n := 15) (S := fun w' => w'.cell? ⟨gb108, 0, none⟩ = some (.int .u8 ((rd_T84 ((rd_T82 l0 x13_1).f1) x21_2).f0)) ∧ w'.cell? ⟨gb108, 1, none⟩ = some (.int .i64 ((rd_T84 ((rd_T82 l0 x13_1).f1) x21_2).f1)) ∧ w'.cell? ⟨go19, (x13_1).toNat, none⟩ = some (.int .i64 (rd x3_2 x13_1)) ∧ w'.cell? ⟨go19, (((rd_T84 ((rd_T82 l0 x13_1).f1) x21_2).f1)).toNat, none⟩ = some (.int .i64 (rd x3_2 ((rd_T84 ((rd_T82 l0 x13_1).f1) x21_2).f1)))) (ds := [14]) #[false, false, false, false, false, false, false, false, false, false, false, false, false, false, false] (by kernel_rfl) rfl rfl ⟨(blk_cell BK108.out 0).trans rfl, (blk_cell BK108.out 1).trans rfl, hx109_0, hx110_0⟩ (fun hHeld => ?_); refine with_tabW file_longest.tab8 file_longest.bits8 (fun HT_ HW_ => ?_)
                                  generalize w23.drew = w24 at HO_3 BK106 BK108 HB GG19 HQ26 hf19_0 hx109_0 hx110_0 hx19_0 hHeld ⊢
                                  refine pure_ (i := 0) (N := some 25) (v := ?_) (a' := ?_) #[true, false, false, false, false, false, false, false, false, false, false, false, false, false, false] rfl rfl (any_of HT_.out (by kernel_rfl)) (fun _ _ _ h => h) (Or.inl ⟨by rfl, ?_⟩) ?_ ?_
                                  rotate_left
                                  · intro w'
                                    go_simp
                                    with_reducible rfl
                                  rotate_left
                                  · simp only [Act.put, List.setIfInBounds_toArray, List.set_cons_zero, List.set_cons_succ, i64_w, i32_w]
                                    rfl
                                  refine pure_ (i := 1) (N := some 26) (v := ?_) (a' := ?_) #[true, true, false, false, false, false, false, false, false, false, false, false, false, false, false] rfl rfl (any_of HT_.out (by kernel_rfl)) (fun _ _ _ h => h) (Or.inl ⟨by rfl, ?_⟩) ?_ ?_
                                  rotate_left
                                  · intro w'
                                    go_simp
                                    with_reducible rfl
                                  rotate_left
                                  · simp only [Act.put, List.setIfInBounds_toArray, List.set_cons_zero, List.set_cons_succ, i64_w, i32_w]
                                    rfl
                                  refine pure_ (i := 2) (N := some 27) (v := ?_) (a' := ?_) #[true, true, true, false, false, false, false, false, false, false, false, false, false, false, false] rfl rfl (any_of HT_.out (by kernel_rfl)) (fun _ _ _ h => h) (Or.inl ⟨by rfl, ?_⟩) ?_ ?_
                                  rotate_left
                                  · intro w'
                                    go_simp
                                    with_reducible rfl
                                  rotate_left
                                  · simp only [Act.put, List.setIfInBounds_toArray, List.set_cons_zero, List.set_cons_succ, i64_w, i32_w]
                                    rfl
                                  refine pure_ (i := 3) (N := some 28) (v := ?_) (a' := ?_) #[true, true, true, true, false, false, false, false, false, false, false, false, false, false, false] rfl rfl (any_of HT_.out (by kernel_rfl)) (fun _ _ _ h => h) (Or.inl ⟨by rfl, ?_⟩) ?_ ?_
                                  rotate_left
                                  · intro w'
                                    go_simp
                                    with_reducible rfl
                                  rotate_left
                                  · simp only [Act.put, List.setIfInBounds_toArray, List.set_cons_zero, List.set_cons_succ, i64_w, i32_w]
                                    rfl
                                  refine pure_ (i := 4) (N := some 29) (v := ?_) (a' := ?_) #[true, true, true, true, true, false, false, false, false, false, false, false, false, false, false] rfl rfl (any_of HT_.out (by kernel_rfl)) (fun _ _ _ h => h) (Or.inl ⟨by rfl, ?_⟩) ?_ ?_
                                  rotate_left
                                  · intro w'
                                    go_simp
                                    with_reducible rfl
                                  rotate_left
                                  · simp only [Act.put, List.setIfInBounds_toArray, List.set_cons_zero, List.set_cons_succ, i64_w, i32_w]
                                    rfl
                                  refine pure_ (i := 6) (N := some 31) (v := ?_) (a' := ?_) #[true, true, true, true, true, false, true, false, false, false, false, false, false, false, false] rfl rfl (any_of HT_.out (by kernel_rfl)) (fun _ _ _ h => h) (Or.inl ⟨by rfl, ?_⟩) ?_ ?_
                                  rotate_left
                                  · intro w'
                                    go_simp
                                    with_reducible rfl
                                  rotate_left
                                  · simp only [Act.put, List.setIfInBounds_toArray, List.set_cons_zero, List.set_cons_succ, i64_w, i32_w]
                                    rfl
                                  refine pure_ (i := 7) (N := some 32) (v := ?_) (a' := ?_) #[true, true, true, true, true, false, true, true, false, false, false, false, false, false, false] rfl rfl (any_of HT_.out (by kernel_rfl)) (fun _ _ _ h => h) (Or.inl ⟨by rfl, ?_⟩) ?_ ?_
                                  rotate_left
                                  · intro w'
                                    go_simp
                                    with_reducible rfl
                                  rotate_left
                                  · simp only [Act.put, List.setIfInBounds_toArray, List.set_cons_zero, List.set_cons_succ, i64_w, i32_w]
                                    rfl
                                  refine take_ (i := 5) (N := some 30) (v := ?_) (a' := ?_) #[true, true, true, true, true, true, true, true, false, false, false, false, false, false, false] rfl rfl (take_ofW HT_.out HW_.out (by kernel_rfl)) (fun _ _ _ h => h) (Or.inl ⟨by rfl, ?_⟩) hHeld ?_ ?_
                                  rotate_left
                                  · rintro w' ⟨s0, s1, s2, s3⟩
                                    go_simp
                                    with_reducible rfl
                                  rotate_left
                                  · simp only [Act.put, List.setIfInBounds_toArray, List.set_cons_zero, List.set_cons_succ, i64_w, i32_w]
                                    rfl
                                  refine take_ (i := 8) (N := some 33) (v := ?_) (a' := ?_) #[true, true, true, true, true, true, true, true, true, false, false, false, false, false, false] rfl rfl (take_ofW HT_.out HW_.out (by kernel_rfl)) (fun _ _ _ h => h) (Or.inl ⟨by rfl, ?_⟩) hHeld ?_ ?_
                                  rotate_left
                                  · rintro w' ⟨s0, s1, s2, s3⟩
                                    go_simp
                                    with_reducible rfl
                                  rotate_left
                                  · simp only [Act.put, List.setIfInBounds_toArray, List.set_cons_zero, List.set_cons_succ, i64_w, i32_w]
                                    rfl
                                  refine pure_ (i := 9) (N := some 34) (v := ?_) (a' := ?_) #[true, true, true, true, true, true, true, true, true, true, false, false, false, false, false] rfl rfl (any_of HT_.out (by kernel_rfl)) (fun _ _ _ h => h) (Or.inl ⟨by rfl, ?_⟩) ?_ ?_
                                  rotate_left
                                  · intro w'
                                    go_simp
                                    with_reducible rfl
                                  rotate_left
                                  · simp only [Act.put, List.setIfInBounds_toArray, List.set_cons_zero, List.set_cons_succ, i64_w, i32_w]
                                    rfl
                                  refine take_ (i := 10) (N := some 35) (v := ?_) (a' := ?_) #[true, true, true, true, true, true, true, true, true, true, true, false, false, false, false] rfl rfl (take_ofW HT_.out HW_.out (by kernel_rfl)) (fun _ _ _ h => h) (Or.inl ⟨by rfl, ?_⟩) hHeld ?_ ?_
                                  rotate_left
                                  · rintro w' ⟨s0, s1, s2, s3⟩
                                    go_simp
                                    with_reducible rfl
                                  rotate_left
                                  · simp only [Act.put, List.setIfInBounds_toArray, List.set_cons_zero, List.set_cons_succ, i64_w, i32_w]
                                    rfl
                                  refine pure_ (i := 11) (N := some 36) (v := ?_) (a' := ?_) #[true, true, true, true, true, true, true, true, true, true, true, true, false, false, false] rfl rfl (any_of HT_.out (by kernel_rfl)) (fun _ _ _ h => h) (Or.inl ⟨by rfl, ?_⟩) ?_ ?_
                                  rotate_left
                                  · intro w'
                                    go_simp
                                    with_reducible rfl
                                  rotate_left
                                  · simp only [Act.put, List.setIfInBounds_toArray, List.set_cons_zero, List.set_cons_succ, i64_w, i32_w]
                                    rfl
                                  refine pure_ (i := 12) (N := some 37) (v := ?_) (a' := ?_) #[true, true, true, true, true, true, true, true, true, true, true, true, true, false, false] rfl rfl (any_of HT_.out (by kernel_rfl)) (fun _ _ _ h => h) (Or.inl ⟨by rfl, ?_⟩) ?_ ?_
                                  rotate_left
                                  · intro w'
                                    go_simp
                                    with_reducible rfl
                                  rotate_left
                                  · simp only [Act.put, List.setIfInBounds_toArray, List.set_cons_zero, List.set_cons_succ, i64_w, i32_w]
                                    rfl
                                  refine pure_ (i := 13) (N := some 38) (v := ?_) (a' := ?_) #[true, true, true, true, true, true, true, true, true, true, true, true, true, true, false] rfl rfl (any_of HT_.out (by kernel_rfl)) (fun _ _ _ h => h) (Or.inl ⟨by rfl, ?_⟩) ?_ ?_
                                  rotate_left
                                  · intro w'
                                    go_simp
                                    with_reducible rfl
                                  rotate_left
                                  · simp only [Act.put, List.setIfInBounds_toArray, List.set_cons_zero, List.set_cons_succ, i64_w, i32_w]
                                    rfl
                                  refine last_ (i := 14) (N := none) #[true, true, true, true, true, true, true, true, true, true, true, true, true, true, true] rfl rfl (one_of HT_.out (by kernel_rfl)) (by decide) (fun K hK => ?_)
                                  refine skip_ (w1 := ?_) (by rfl) rfl ?_ ?_
                                  rotate_left
                                  · go_simp
                                    rfl
                                  refine hK.out _ _ ?_
                                  clear hK K
                                  refine done_ (done_of HT_.out (by kernel_rfl)) ?_
                                  try go_wp2
                                  go_roundg k2
                                  case measure => have := HK1.out; have := HK2.out; omega
                                  case rel => exact ⟨(y111), (wrap64 (x21_2 + 1)), (by first | rfl | (simp; done) | (simp [*]; done)), H', ⟨by have := HK1.out; have := HK2.out; omega⟩, ⟨by (with_reducible repeat (first | apply Kd.R_alloc | apply Kd.R_drewN | apply Kd.R_drew)); exact HQ26.out⟩, ⟨by (with_reducible repeat (first | refine blk_drewN ?_ _ | refine blk_drew ?_ | refine blk_alloc ?_ _)); refine blk_far ?_ (by have h_ := Kd.R_ne HO_3.out BK106.out (by decide); intro e_; exact h_ (by rw [e_]; rfl)) _; (with_reducible repeat (first | refine blk_drewN ?_ _ | refine blk_drew ?_ | refine blk_alloc ?_ _)); exact BK106.out⟩, ⟨by repeat (first | (with_reducible first | exact HB.out | apply below_alloc | apply pw_below_drewN | apply below_drew1 | refine below_set ?_ GB19.out | refine below_set ?_ GE106.out | refine below_set ?_ GE108.out) | exact HB.out)⟩⟩
                                · rw [if_neg c17] at H
                                  exact absurd H (by simp)
                              · rw [if_neg c16] at H
                                exact absurd H (by simp)
                            · rw [if_neg c15] at H
                              exact absurd H (by simp)
                          · rw [if_neg c14] at H
                            exact absurd H (by simp)
                        · rw [if_neg c13] at H
                          exact absurd H (by simp)
                      · rw [if_neg c12] at H
                        exact absurd H (by simp)
                    · rw [if_neg c11] at H
                      have c11b0 : decide (x21_2 < (((rd_T82 l0 x13_1).f1).length : Int)) = false := decide_eq_false c11
                      clear c11
                      have H' := Aside0.mk H
                      clear H
                      go_wp2
                      go_roundg k2
                      case measure => have := HK1.out; have := HK2.out; omega
                      case rel => exact ⟨(x3_2), (wrap64 (x13_1 + 1)), (by first | rfl | (simp; done) | (simp [*]; done)), H', ⟨by have := HK1.out; have := HK2.out; omega⟩, ⟨by (with_reducible repeat (first | apply Kd.R_alloc | apply Kd.R_drewN | apply Kd.R_drew)); exact HO_3.out⟩, ⟨by repeat (first | (with_reducible first | exact HB.out | apply below_alloc | apply pw_below_drewN | apply below_drew1 | refine below_set ?_ GE106.out) | exact HB.out)⟩⟩
              · rw [if_neg c8] at H
                exact absurd H (by simp)
            · rw [if_neg c7] at H
              exact absurd H (by simp)
          · rw [if_neg c6] at H
            have c6b0 : decide (x13_1 < (l0.length : Int)) = false := decide_eq_false c6
            clear c6
            obtain ⟨ji27, hji27⟩ : ∃ j_ : Int, (wrap64 ((l0.length : Int) - 1)) = j_ := ⟨_, rfl⟩
            replace H : (if 0 ≤ (ji27) then (if (ji27) < (x3_1.length : Int) then (some (rd x3_1 (ji27))) else (none)) else (none)) = some r := by first | (rw [hji27] at H; exact H) | (simp only [hji27] at H ⊢; exact H)
            have hji27w : (IntKind.i64.wrap ((l0.length : Int) - 1)) = ji27 := (i64_w _).trans hji27
            by_cases c28 : 0 ≤ (ji27)
            · rw [if_pos c28] at H
              have c28b0 : decide (0 ≤ (ji27)) = true := decide_eq_true c28
              clear c28
              by_cases c29 : (ji27) < (x3_1.length : Int)
              · rw [if_pos c29] at H
                have c29b0 : decide ((ji27) < (x3_1.length : Int)) = true := decide_eq_true c29
                clear c29
                obtain rfl := Option.some.inj H
                obtain ⟨Ao30, co30, eo30⟩ := Kd.R_slice HO_3.out
                subst eo30
                have p104 : 0 ≤ ((ji27) : Int) := of_decide_eq_true (by first | (with_reducible assumption) | assumption)
                have q104 : (ji27) < (x3_1.length : Int) := of_decide_eq_true (by first | (with_reducible assumption) | assumption)
                obtain ⟨ad104, e104, hx104_0⟩ := Kd.at_int (Kd.R_reads' HO_3.out).2.2 (ji27) p104 q104
                cases e104
                replace p104 := eq_true p104
                replace q104 := eq_true q104
                go_wp2
                go_ret
                exact ⟨by first | rfl | (simp [errW_none, errW_some] <;> rfl) | (simp only [← hji27]; first | rfl | (simp [errW_none, errW_some] <;> rfl)) | (simp [*, errW_none, errW_some] <;> rfl), by repeat (first | (with_reducible first | exact HB.out | apply below_alloc | apply pw_below_drewN | apply below_drew1) | exact HB.out)⟩
              · rw [if_neg c29] at H
                exact absurd H (by simp)
            · rw [if_neg c28] at H
              exact absurd H (by simp)
    · rw [if_neg c3] at H
      exact absurd H (by simp)
  · rw [if_neg c2] at H
    exact absurd H (by simp)

end Go.Proofs.Ytgebhidpkcjpmaa.PLg

namespace Go.Proofs.Ytgebhidpkcjpmaa.PLg
open Go.RowKit Go.Proofs.YtgebhidpkcjpmaaW.PrintWords Go.Proofs.YtgebhidpkcjpmaaW.PrintLast Go.Proofs.YtgebhidpkcjpmaaW.PrintMore Go.Proofs.Ytgebhidpkcjpmaa.K Go.Proofs.Ytgebhidpkcjpmaa.PDk Go.Proofs.Ytgebhidpkcjpmaa.PDm Go.Proofs.Ytgebhidpkcjpmaa.PFl Go.Proofs.Ytgebhidpkcjpmaa.PR13
attribute [local go_sem] max2_int min2_int max_two min_two max_three min_three max_four min_four   -- for this text's walks alone
set_option linter.unusedVariables false
set_option linter.unusedSimpArgs false

end Go.Proofs.Ytgebhidpkcjpmaa.PLg

namespace Go.Proofs.Ytgebhidpkcjpmaa.Fil
open Go.Proofs.Ytgebhidpkcjpmaa.Daw
set_option linter.unusedVariables false
set_option linter.unusedSimpArgs false
/-- An edge of state i. -/
def edB (i : Nat) (e : DE) : List Nat := e.1 :: put (i - e.2)
def hdN (s : DS) : Nat := 2 * s.2.length + (if s.1 = true then 1 else 0)
def stB (i : Nat) (s : DS) : List Nat := put (hdN s) ++ s.2.flatMap (edB i)
/-- The states from the i-th on. -/
def stsB : Nat → List DS → List Nat
  | _, [] => []
  | i, s :: r => stB i s ++ stsB (i + 1) r
def statesB (a : List DS) : List Nat := put a.length ++ stsB 0 a
def countsB (l : List Nat) : List Nat := put l.length ++ l.flatMap put
/-- A record, told by the sum's function. -/
def recB (crc : List Nat → List Nat) (p : List Nat) : List Nat := put p.length ++ (p ++ crc p)
def magicB : List Nat := [77, 65, 78, 84, 69, 76, 69, 84]
def encB (crc : List Nat → List Nat) (a : List DS) (c k : List Nat) : List Nat := recB crc magicB ++ (recB crc (statesB a) ++ (recB crc (countsB c) ++ recB crc k))
/-- All edges lead to lower states, or to the state itself. -/
def Low (i : Nat) (a : List DS) : Prop := ∀ k s, a[k]? = some s → ∀ e ∈ s.2, e.2 ≤ i + k
theorem Low.tail {i : Nat} {s : DS} {a : List DS} (h : Low i (s :: a)) : Low (i + 1) a := fun k t hk e he => by
  have := h (k + 1) t (by simpa using hk) e he
  omega
theorem Low.head {i : Nat} {s : DS} {a : List DS} (h : Low i (s :: a)) : ∀ e ∈ s.2, e.2 ≤ i := fun e he => h 0 s rfl e he
end Go.Proofs.Ytgebhidpkcjpmaa.Fil

namespace Go.Proofs.Ytgebhidpkcjpmaa.K
open Go.RowKit Go.Proofs.YtgebhidpkcjpmaaW.PrintWords Go.Proofs.YtgebhidpkcjpmaaW.PrintLast Go.Proofs.YtgebhidpkcjpmaaW.PrintMore Go.Proofs.Ytgebhidpkcjpmaa
attribute [local go_sem] max2_int min2_int max_two min_two max_three min_three max_four min_four
set_option linter.unusedVariables false
set_option linter.unusedSimpArgs false
open Go
def dist (cs : List Int) : List Int := cs.foldl (fun acc x => if x ∈ acc then acc else acc ++ [x]) []
theorem dist_snoc (cs : List Int) (x : Int) : dist (cs ++ [x]) = if x ∈ dist cs then dist cs else dist cs ++ [x] := by
  unfold dist; rw [List.foldl_append]; rfl
theorem snoc_ind {p : List Int → Prop} (h0 : p []) (hs : ∀ l x, p l → p (l ++ [x])) (l : List Int) : p l := by
  have : ∀ r : List Int, p r.reverse := fun r => by
    induction r with
    | nil => exact h0
    | cons x r ih => rw [List.reverse_cons]; exact hs _ _ ih
  simpa using this l.reverse
theorem mem_dist (x : Int) (cs : List Int) : x ∈ dist cs ↔ x ∈ cs := by
  induction cs using snoc_ind with
  | h0 => simp [dist]
  | hs l y ih =>
    rw [dist_snoc]
    by_cases h : y ∈ dist l
    · rw [if_pos h, ih, List.mem_append, List.mem_singleton]
      constructor
      · exact Or.inl
      · rintro (h1 | rfl)
        · exact h1
        · exact ih.1 h
    · rw [if_neg h, List.mem_append, List.mem_append, ih]
theorem nodup_dist (cs : List Int) : (dist cs).Nodup := by
  induction cs using snoc_ind with
  | h0 => simp [dist]
  | hs l y ih =>
    rw [dist_snoc]
    by_cases h : y ∈ dist l
    · rw [if_pos h]; exact ih
    · rw [if_neg h, List.nodup_append]
      exact ⟨ih, by simp, fun a ha b hb e => by rw [List.mem_singleton] at hb; subst hb; subst e; exact h ha⟩
/-- How many unlike counts are greater. -/
def abv (cs : List Int) (x : Int) : Nat := (dist cs).countP (fun y => decide (x < y))
/-- A class. -/
def cls (cs : List Int) (x : Int) : Int := if 255 < (abv cs x : Int) then 255 else (abv cs x : Int)
theorem abv_of (cs ts : List Int) (hn : ts.Nodup) (hm : ∀ x, x ∈ ts ↔ x ∈ cs) (x : Int) : abv cs x = ts.countP (fun y => decide (x < y)) := by
  unfold abv
  refine List.Perm.countP_eq _ ((List.perm_ext_iff_of_nodup (nodup_dist cs) hn).2 (fun y => ?_))
  rw [mem_dist, hm]
theorem abv_idx (cs ts : List Int) (hn : ts.Nodup) (hm : ∀ x, x ∈ ts ↔ x ∈ cs) (hp : ts.Pairwise (fun a b => b ≤ a)) (i : Nat) (hi : i < ts.length) : abv cs ts[i] = i := by
  rw [abv_of cs ts hn hm]
  have hs : ts.Pairwise (fun a b => b < a) := (hp.and hn).imp (fun {a b} h => by omega)
  rw [List.pairwise_iff_getElem] at hs
  have e : ts.countP (fun y => decide (ts[i] < y)) = (ts.take i ++ ts.drop i).countP (fun y => decide (ts[i] < y)) := by rw [List.take_append_drop]
  rw [e, List.countP_append]
  have h1 : (ts.take i).countP (fun y => decide (ts[i] < y)) = (ts.take i).length := by
    rw [List.countP_eq_length]
    intro a ha
    obtain ⟨j, hj, rfl⟩ := List.mem_iff_getElem.1 ha
    rw [List.length_take] at hj
    rw [List.getElem_take]
    exact decide_eq_true (hs j i (by omega) hi (by omega))
  have h2 : (ts.drop i).countP (fun y => decide (ts[i] < y)) = 0 := by
    rw [List.countP_eq_zero]
    intro a ha
    obtain ⟨j, hj, rfl⟩ := List.mem_iff_getElem.1 ha
    rw [List.length_drop] at hj
    rw [List.getElem_drop]
    have h3 : ¬ ts[i] < ts[i + j] := by
      by_cases h : j = 0
      · subst h; simp
      · have := hs i (i + j) hi (by omega) (by omega); omega
    simpa using h3
  rw [h1, h2, List.length_take]
  omega
end Go.Proofs.Ytgebhidpkcjpmaa.K

namespace Go.Proofs.Ytgebhidpkcjpmaa.K
open Go.RowKit Go.Proofs.YtgebhidpkcjpmaaW.PrintWords Go.Proofs.YtgebhidpkcjpmaaW.PrintLast Go.Proofs.YtgebhidpkcjpmaaW.PrintMore Go.Proofs.Ytgebhidpkcjpmaa
attribute [local go_sem] max2_int min2_int max_two min_two max_three min_three max_four min_four
set_option linter.unusedVariables false
set_option linter.unusedSimpArgs false
open Go Go.RowKit Go.Maps Go.Sort
attribute [local go_sem] Oper.semAt_some
abbrev encU : Int → Value := Value.int .u64
theorem keyOf_u64 {P : Program} {k : TypeId} (hk : P.underlying k = some (.int .u64)) {key : Value} {kl : Lit} (h : keyOf P k key = some kl) : ∃ x : Int, key = encU x ∧ kl = .int .u64 x ∧ (Lit.int .u64 x).wf = true := by
  cases key <;> simp [keyOf, hk, mapKey] at h
  rename_i q a
  obtain ⟨⟨rfl, hw⟩, rfl⟩ := h
  exact ⟨a, rfl, rfl, hw⟩
/-- What has come of the keys: each once, and just those that are no longer to come. -/
def Come {H : Type} (D0 : DataW H) (left : Lit → Bool) (ss : List Int) : Prop := ss.Nodup ∧ ∀ x, x ∈ ss ↔ (has D0 (.int .u64 x) = true ∧ left (.int .u64 x) = false)
theorem Come.start {H : Type} (D0 : DataW H) : Come D0 (has D0) [] := ⟨List.nodup_nil, fun x => by cases has D0 (.int .u64 x) <;> simp⟩
theorem Come.step {H : Type} {D0 : DataW H} {left : Lit → Bool} {ss : List Int} (h : Come D0 left ss) {x : Int} {y : DataW H} (hlk : left (.int .u64 x) = true) (hat : ∀ zd, D0.atKey (.int .u64 x) zd = y) : Come D0 (fun z => left z && !z.sameKey (.int .u64 x)) (ss ++ [x]) := by
  have hhas : has D0 (.int .u64 x) = true := has_true_of_atKey hat
  have hnew : x ∉ ss := fun hx => by
    have h2 := ((h.2 x).1 hx).2
    rw [hlk] at h2; cases h2
  refine ⟨?_, fun y => ?_⟩
  · rw [List.nodup_append]
    refine ⟨h.1, by simp, fun a ha b hb e => ?_⟩
    rw [List.mem_singleton] at hb
    exact hnew (hb ▸ e ▸ ha)
  · by_cases hy : y = x
    · subst hy; simp [hhas, Lit.sameKey]
    · simp [h.2 y, hy, Lit.sameKey]
def Keys {H : Type} (D0 : DataW H) (ss : List Int) : Prop := ss.Nodup ∧ ∀ x, x ∈ ss ↔ has D0 (.int .u64 x) = true
theorem keyedU : Keyed Try.prog 47 := int_keyed Try.underlying47

set_option maxRecDepth 100000 in
set_option maxHeartbeats 2000000 in
theorem keys1_in {H : Type} (F : Fence) (n : Nat) (hf : F.fn 89) (hro : F.round = none) (hn : 1 ≤ n) (l Bm b nn : Nat) (D0 : DataW H) (J Jx : List Int → World → Prop)
    (hY : ∀ pre x W, J pre W → pre.length < Maps.size D0 → YieldAt F (n - 1) Try.prog l #[encU x] W fun e W' =>
      (e = .returned (.bool true) ∧ J (pre ++ [x]) W' ∧ KeepsWalks W W') ∨ (e = .returned (.bool false) ∧ Jx (pre ++ [x]) W'))
    (W : World) (hJ : AbidesFrom W.heap.size J) (hm : W.cell? ⟨Bm, 0, none⟩ = some (.map (some b))) (hown : W.ownsMap Try.prog 47 (plainElem Try.prog 3) b nn D0) (h0 : J [] W) :
    CallsIn F n Try.prog 89 #[.func (.yield l) #[] #[], .pointer (some ⟨Bm, 0, none⟩)] W fun e W' => (∃ v, e = .returned v) ∧
      ((∃ ss : List Int, (Keys D0 ss ∧ ss.length ≤ Maps.size D0) ∧ J ss W') ∨ (∃ pre : List Int, True ∧ Jx pre W')) := by
  refine callsIn_of_wp Try.func89 rfl hf ?_ hro
  simp only [Try.ntmps89, List.size_toArray, List.length_cons, List.length_nil, Nat.reduceAdd, Nat.reduceSub, Array.replicate_succ, Array.replicate_zero, List.push_toArray, List.append_toArray, List.nil_append, List.cons_append]
  gi_wp2_with (first
    | (gi_at_range; refine wpListIn_range_own _ rfl _ 116 rfl 47 3 keyedU Try.underlying116 _ b nn _ rfl hown ?_; intro w0 hrg0 hg0 hs0)
    | gi_in)
  go_frame
  gi_loopw [3] (fun _ wr => ∃ (left : Lit → Bool) (cnt : Nat) (ss : List Int), wr.ranges Try.prog 47 (plainElem Try.prog 3) b W.heap.size nn D0 left cnt ∧ ss.length + cnt ≤ Maps.size D0 ∧ Come D0 left ss ∧ J ss wr)
    (fun _ wr => wr.rangeLeft b W.heap.size)
  case atStart =>
    exact ⟨_, _, [], hrg0, by simp, Come.start D0, hJ [] W w0 none h0 hg0 (fun r e => by cases e)⟩
  case round =>
    obtain ⟨left, cnt, ss, hrg, hcs, hC, hJs⟩ := hrel
    gi_wp2_with (first
      | (gi_at_next; refine wpListIn_next_ranges _ rfl _ rfl 47 keyedU (plainElem Try.prog 3) encU (Value.int .i64) (fun key kl hk => by obtain ⟨x, hx, _⟩ := keyOf_u64 Try.underlying47 hk; exact ⟨x, hx⟩) (fun v y hv => by obtain ⟨c, rfl, _⟩ := plainElem_int_inv Try.underlying3 hv; exact ⟨c, rfl⟩) b W.heap.size nn _ _ _ rfl hrg ?_ ?_)
      | gi_in)
    · intro hc0 hl0
      gi_wp2
      go_end0
      exact ⟨⟨_, rfl⟩, .inl ⟨ss, ⟨⟨hC.1, fun x => by rw [hC.2 x, hl0]; simp⟩, by omega⟩, hJs⟩⟩
    · intro x c kl yd yp w2 cnt2 hkey hlk hv hat hrg2 hlt hg2 hs2 hen
      obtain ⟨x', ex, rfl, _⟩ := keyOf_u64 Try.underlying47 hkey
      obtain rfl : x = x' := by injection ex
      have hJ2 : J ss w2 := hJ ss wr w2 (some W.heap.size) hJs hg2 (fun r e => by cases e; exact ⟨Nat.le_refl _, hrg.iter_walk⟩)
      obtain ⟨fn, tmps, assign, body, hy, hR⟩ := hY ss x w2 hJ2 (by omega)
      clear hs2
      gi_wp2
      refine hR.mono ?_
      have hC2 := hC.step hlk hat
      rintro e W3 (⟨rfl, hJ3, hk3⟩ | ⟨rfl, hJx3⟩)
      · gi_wp2
        have hrg3 := hrg2.of_walks hk3
        go_roundw
        case rel => exact ⟨_, cnt2, ss ++ [x], hrg3, by simp; omega, hC2, hJ3⟩
        case measure => rw [hrg3.left_eq, hrg.left_eq]; exact hlt
      · gi_wp2
        refine bodyPost_ret (results_none rfl _ _ _) rfl ?_
        exact ⟨⟨_, rfl⟩, .inr ⟨ss ++ [x], trivial, hJx3⟩⟩

set_option maxHeartbeats 1000000 in
theorem keys_in (F : Fence) (n : Nat) (hf : F.fn 65) (hro : F.round = none) (mb : Option Nat) (w : World) :
    CallsIn F n Try.prog 65 #[.map mb] w fun e w' => e = .returned (.func (.func 89) #[] #[.pointer (some ⟨w.heap.size, 0, none⟩)]) ∧ w' = w.alloc (.cells #[.map mb] 116) := by
  refine callsIn_of_wp Try.func65 rfl hf ?_ hro
  simp only [Try.ntmps65, List.size_toArray, List.length_cons, List.length_nil, Nat.reduceAdd, Nat.reduceSub, Array.replicate_succ, Array.replicate_zero, List.push_toArray, List.append_toArray, List.nil_append, List.cons_append]
  gi_wp2
  go_ret
  exact ⟨rfl, rfl⟩

/-- maps.Keys(m) hands back an iterator over m's keys. -/
theorem keys_stops {H : Type} (F : Fence) (n : Nat) (hf : F.fn 89) (hro : F.round = none) (hn : 1 ≤ n) (Bm b nn : Nat) (D0 : DataW H) (w : World) (hBm : Bm < w.heap.size)
    (hm : w.cell? ⟨Bm, 0, none⟩ = some (.map (some b))) (hown : w.ownsMap Try.prog 47 (plainElem Try.prog 3) b nn D0) :
    SeqStops F n Try.prog 89 #[.pointer (some ⟨Bm, 0, none⟩)] encU (fun ss => Keys D0 ss ∧ ss.length ≤ Maps.size D0) (fun _ => True) (Maps.size D0) w := fun l J Jx W hW hJ _ hY h0 => by
  have hown' : W.ownsMap Try.prog 47 (plainElem Try.prog 3) b nn D0 := by
    have hbl := hown.lt
    obtain ⟨es, clock, hb, Ft, hs, hD⟩ := hown
    exact ⟨es, clock, (hW.block b hbl).trans hb, Ft, hs, hD⟩
  exact keys1_in F n hf hro hn l Bm b nn D0 J Jx hY W hJ ((hW.cell (p := ⟨Bm, 0, none⟩) hBm).trans hm) hown' h0
end Go.Proofs.Ytgebhidpkcjpmaa.K

namespace Go.Proofs.Ytgebhidpkcjpmaa.K
open Go Go.Shelf
set_option linter.unusedVariables false
set_option linter.unusedSimpArgs false
def sortU_ren : Go.Shelf.Ren := ⟨fun | 6 => 88 | 15 => 101 | 14 => 100 | 28 => 113 | 29 => 114 | 20 => 105 | 21 => 106 | 22 => 107 | 23 => 108 | 24 => 109 | 25 => 110 | 26 => 111 | 27 => 112 | 46 => 117 | 47 => 118 | 48 => 119 | 49 => 120 | 50 => 121 | 57 => 122 | n => n, fun | 22 => 26 | 24 => 47 | 25 => 117 | 3 => 3 | 39 => 134 | 0 => 0 | 53 => 136 | 55 => 47 | 4 => 4 | 46 => 167 | 45 => 166 | 50 => 100 | 5 => 5 | 9 => 9 | 66 => 177 | 70 => 181 | 76 => 183 | 77 => 184 | n => n, fun | n => n⟩
theorem sortU : Go.Proofs.SlLaysF.n6 Try.prog sortU_ren := {
  mixed := by kernel_rfl
  f6 := ⟨Try.f88.name, by decide, Try.func88.trans (congrArg some (by kernel_rfl))⟩
  f14 := ⟨Try.f100.name, by decide, Try.func100.trans (congrArg some (by kernel_rfl))⟩
  f15 := Try.func101.trans (congrArg some (by kernel_rfl))
  f20 := ⟨Try.f105.name, by decide, Try.func105.trans (congrArg some (by kernel_rfl))⟩
  f21 := ⟨Try.f106.name, by decide, Try.func106.trans (congrArg some (by kernel_rfl))⟩
  f22 := ⟨Try.f107.name, by decide, Try.func107.trans (congrArg some (by kernel_rfl))⟩
  f23 := ⟨Try.f108.name, by decide, Try.func108.trans (congrArg some (by kernel_rfl))⟩
  f24 := ⟨Try.f109.name, by decide, Try.func109.trans (congrArg some (by kernel_rfl))⟩
  f25 := ⟨Try.f110.name, by decide, Try.func110.trans (congrArg some (by kernel_rfl))⟩
  f26 := ⟨Try.f111.name, by decide, Try.func111.trans (congrArg some (by kernel_rfl))⟩
  f27 := ⟨Try.f112.name, by decide, Try.func112.trans (congrArg some (by kernel_rfl))⟩
  f28 := Try.func113.trans (congrArg some (by kernel_rfl))
  f29 := Try.func114.trans (congrArg some (by kernel_rfl))
  f46 := ⟨Try.f117.name, by decide, Try.func117.trans (congrArg some (by kernel_rfl))⟩
  f47 := Try.func118.trans (congrArg some (by kernel_rfl))
  f48 := Try.func119.trans (congrArg some (by kernel_rfl))
  f49 := ⟨Try.f120.name, by decide, Try.func120.trans (congrArg some (by kernel_rfl))⟩
  f50 := ⟨Try.f121.name, by decide, Try.func121.trans (congrArg some (by kernel_rfl))⟩
  f57 := ⟨Try.f122.name, by decide, Try.func122.trans (congrArg some (by kernel_rfl))⟩
  t0 := Try.underlying0
  a0 := Try.isAgg0
  z0 := Try.sizeOf0
  v0 := Try.zeroValue0
  t3 := Try.underlying3
  a3 := Try.isAgg3
  z3 := Try.sizeOf3
  v3 := Try.zeroValue3
  t4 := Try.underlying4
  a4 := Try.isAgg4
  z4 := Try.sizeOf4
  v4 := Try.zeroValue4
  t5 := Try.underlying5
  a5 := Try.isAgg5
  z5 := Try.sizeOf5
  v5 := Try.zeroValue5
  t9 := Try.underlying9
  a9 := Try.isAgg9
  z9 := Try.sizeOf9
  v9 := Try.zeroValue9
  t22 := Try.underlying26
  a22 := Try.isAgg26
  z22 := Try.sizeOf26
  v22 := Try.zeroValue26
  a24 := Try.isAgg47
  z24 := Try.sizeOf47
  t25 := Try.underlying117
  a25 := Try.isAgg117
  z25 := Try.sizeOf117
  v25 := Try.zeroValue117
  t39 := Try.underlying134
  a39 := Try.isAgg134
  z39 := Try.sizeOf134
  v39 := Try.zeroValue134
  t45 := Try.underlying166
  a45 := Try.isAgg166
  z45 := Try.sizeOf166
  v45 := Try.zeroValue166
  t46 := Try.underlying167
  a46 := Try.isAgg167
  z46 := Try.sizeOf167
  v46 := Try.zeroValue167
  t50 := Try.underlying100
  a50 := Try.isAgg100
  z50 := Try.sizeOf100
  v50 := Try.zeroValue100
  t53 := Try.underlying136
  a53 := Try.isAgg136
  z53 := Try.sizeOf136
  v53 := Try.zeroValue136
  t55 := Try.underlying47
  a55 := Try.isAgg47
  z55 := Try.sizeOf47
  v55 := Try.zeroValue47
  t66 := Try.underlying177
  a66 := Try.isAgg177
  z66 := Try.sizeOf177
  v66 := Try.zeroValue177
  t70 := Try.underlying181
  a70 := Try.isAgg181
  z70 := Try.sizeOf181
  v70 := Try.zeroValue181
  t76 := Try.underlying183
  a76 := Try.isAgg183
  z76 := Try.sizeOf183
  v76 := Try.zeroValue183
  t77 := Try.underlying184
  a77 := Try.isAgg184
  z77 := Try.sizeOf184
  v77 := Try.zeroValue184 }
end Go.Proofs.Ytgebhidpkcjpmaa.K

namespace Go.Proofs.Ytgebhidpkcjpmaa.K
open Go.RowKit Go.Proofs.YtgebhidpkcjpmaaW.PrintWords Go.Proofs.YtgebhidpkcjpmaaW.PrintLast Go.Proofs.YtgebhidpkcjpmaaW.PrintMore Go.Proofs.Ytgebhidpkcjpmaa
attribute [local go_sem] max2_int min2_int max_two min_two max_three min_three max_four min_four
set_option linter.unusedVariables false
set_option linter.unusedSimpArgs false
open Go Go.RowKit Go.Maps Go.Sort
attribute [local go_sem] Oper.semAt_some
theorem infoU : (Try.prog.info? 47).map (fun i => (i.zero, i.size, i.bytes)) = some (some (.int .u64 0), 1, 8) := by kernel_rfl
set_option maxRecDepth 100000 in
set_option maxHeartbeats 4000000 in
theorem appendSeq_in (F : Fence) (n : Nat) (hf : F.fn 99) (hro : F.round = none) (hn : 2 ≤ n) (g : Nat) (lb : Array Value) (hFg : F.fn g) (eg : ∀ args w, (callFunc g args).run Try.prog w = .ok (.enter g args) w)
    (S Sp : List Int → Prop) (N : Nat) (hN : N ≤ maxLen) (hNb : N * 8 ≤ 140737488355328) (w : World) (hseq : SeqStops F (n - 1) Try.prog g lb encU S Sp N w) :
    CallsIn F n Try.prog 99 #[.slice none 0 0, .func (.func g) #[] lb] w fun e w' => ∃ (v : Value) (ss : List Int), e = .returned v ∧ S ss ∧ w'.ownsRow w.heap.size 47 1 v ss.length (ss.map encU) ∧ Below w.heap.size w w' := by
  have h1 : 1 ≤ n := by omega
  obtain ⟨i0, hi, hz0, hz1, hz2⟩ := info_parts infoU
  refine callsIn_of_wp_marks Try.func99 rfl hf ?_ hro
  simp only [Try.ntmps99, List.size_toArray, List.length_cons, List.length_nil, Nat.reduceAdd, Nat.reduceSub, Array.replicate_succ, Array.replicate_zero, List.push_toArray, List.append_toArray, List.nil_append, List.cons_append]
  gi_wp2
  have bO := Boxed.new w 26 (.slice none 0 0)
  have hB0 : Below w.heap.size w (w.alloc (.cells #[.slice none 0 0] 26)) := (Below.refl _ w).alloc (Nat.le_refl _) _
  have hsq : SeqStopsK F (n - 1) Try.prog g lb (fun x : Int => #[encU x]) KeepsWalks S Sp N w := hseq
  refine wpIn_rangeFunc_ownG (α := Int) hro h1 (gf := g) (lb := lb) rfl hFg eg
    (hsq) walksK_t walksK_b hB0 (fun _ => rfl)
    (fun (pre : List Int) W => (∃ v, Boxed W w.heap.size 26 v ∧ W.ownsRow w.heap.size 47 1 v pre.length (pre.map encU) ∧ True) ∧ Below w.heap.size w W)
    (fun _ _ _ => False)
    (OwnFrom.and (Own.from (holdsRow_own w.heap.size w.heap.size 26 47 1 (fun pre : List Int => pre.length) (fun pre : List Int => pre.map encU) (fun (pre : List Int) v => True)) _) (ownFrom_below (Nat.le_refl _) (by simp)))
    (fun _ _ _ _ _ hs _ _ => hs)
    ⟨⟨_, bO, World.ownsRow_nil _ _ _ _, trivial⟩, hB0⟩
    (fun x => { tmps := #[.slice none 0 0, .func (.func g) #[] lb, .pointer (some ⟨w.heap.size, 0, none⟩), undef, .slice none 0 0, encU x, .func (.func g) #[] lb, encU x, undef, undef, undef, undef, undef], defers := [] }) ?assign ?body ?done ?stop
  case assign =>
    intro l x W K hK
    gi_wp2
    exact hK
  case body =>
    rintro l pre x W ⟨⟨v, hv, hrow, _⟩, hB⟩ hlt
    have hc := hv.cell
    gi_wp2_with (gi_at_builtin; refine wpListIn_append_own _ rfl _ _ 26 rfl w.heap.size 47 i0 (.int .u64 0) 1 8 Try.underlying26 hi hz0 hz1 hz2 rfl (by decide) _ _ _ rfl (hrow.alloc _) ⟨W.heap.size, 0, none⟩ 1 1 [encU x] rfl rfl (cell_one_new _ _ _) (by simp [Value.oneCell']) (by omega) (by omega) (by have := hB.size; simp; omega) ?_; intro v' w1 hown' hgrow _; obtain ⟨g', cap', rfl⟩ := ownsRow_succ hown'; obtain ⟨hv1, hv2, hr2, hk2, hb2⟩ := hv.appended (by decide) hrow hB.size (Nat.le_refl _) hown' hgrow; have hc1 := hv1.cell; have hf1 := hv1.frozen)
    exact ⟨hk2.from _, hk2.walks, ⟨_, hv2, by simpa using hr2, trivial⟩, hB.trans hb2⟩
  case done =>
    rintro D ys W hD hS ⟨⟨v, hv, hrow, _⟩, hB⟩ hK
    have hc := hv.cell
    gi_wp2
    refine ⟨by simp, .inl ⟨_, _, rfl, run_takeDeferred hK, ?_⟩⟩
    exact ⟨_, results_tmp rfl _ _ _, v, ys, rfl, hS, ownsRow_putObj hrow _ hK rfl, hB.trans (belowK_b (w := w) (Nat.le_refl _) W D _ _ (by simp at hD; omega) hK rfl rfl)⟩
  case stop =>
    rintro D c pre W _ _ h _
    exact h.elim

set_option maxHeartbeats 1000000 in
theorem collect_in (F : Fence) (n : Nat) (hf : F.fn 87) (hf2 : F.fn 99) (hro : F.round = none) (hn : 3 ≤ n) (g : Nat) (lb : Array Value) (hFg : F.fn g) (eg : ∀ args w, (callFunc g args).run Try.prog w = .ok (.enter g args) w)
    (S Sp : List Int → Prop) (N : Nat) (hN : N ≤ maxLen) (hNb : N * 8 ≤ 140737488355328) (w : World) (hseq : SeqStops F (n - 1 - 1) Try.prog g lb encU S Sp N w) :
    CallsIn F n Try.prog 87 #[.func (.func g) #[] lb] w fun e w' => ∃ (v : Value) (ss : List Int), e = .returned v ∧ S ss ∧ w'.ownsRow w.heap.size 47 1 v ss.length (ss.map encU) ∧ Below w.heap.size w w' := by
  have h1 : 1 ≤ n := by omega
  refine callsIn_of_wp Try.func87 rfl hf ?_ hro
  simp only [Try.ntmps87, List.size_toArray, List.length_cons, List.length_nil, Nat.reduceAdd, Nat.reduceSub, Array.replicate_succ, Array.replicate_zero, List.push_toArray, List.append_toArray, List.nil_append, List.cons_append]
  gi_wp2_with (gi_at_call 99; refine (appendSeq_in F (n - 1) hf2 hro (by omega) g lb hFg eg S Sp N hN hNb _ hseq).mono ?_; rintro e w' ⟨v, ss, rfl, hS, hrow, hb⟩)
  go_ret
  exact ⟨v, ss, rfl, hS, hrow, hb⟩

def cmpD (x y : Int) : Int := if y < x then -1 else if x < y then 1 else 0
theorem ltOf_cmpD (x y : Int) : Go.Proofs.ltOf cmpD x y = decide (y < x) := by
  unfold Go.Proofs.ltOf cmpD
  by_cases h : y < x
  · simp [h]
  · by_cases h2 : x < y <;> simp [h, h2]
theorem swoD : Go.Sort.SWO (Go.Proofs.ltOf cmpD) where
  irrefl x := by rw [ltOf_cmpD]; simp
  trans x y z h1 h2 := by rw [ltOf_cmpD] at *; simp at *; omega
  ntrans x y z h1 h2 := by rw [ltOf_cmpD] at *; simp at *; omega
set_option maxHeartbeats 4000000 in
set_option maxRecDepth 100000 in
theorem isNaN_k (a : Int) (W : World) : Calls Try.prog 86 #[.int .u64 a] W fun e w' => e = .returned (.bool false) ∧ w' = W := by
  go_enter Try.func86, Try.ntmps86
  go_wp2
  go_ret
  exact ⟨rfl, rfl⟩
set_option maxHeartbeats 4000000 in
set_option maxRecDepth 100000 in
theorem compare_k (a b : Int) (W : World) : Calls Try.prog 63 #[.int .u64 a, .int .u64 b] W fun e w' => e = .returned (.int .i64 (cmpD b a)) ∧ w' = W := by
  have hn := isNaN_k
  go_enter Try.func63, Try.ntmps63
  by_cases h1 : a < b
  · have h1b : decide (a < b) = true := decide_eq_true h1
    have er : cmpD b a = -1 := by unfold cmpD; rw [if_pos h1]
    rw [er]
    go_wp2_with (first | (go_at_call 86; refine (hn _ _).mono ?_; rintro e w' ⟨rfl, rfl⟩))
    go_ret
    exact ⟨rfl, rfl⟩
  · have h1b : decide (a < b) = false := decide_eq_false h1
    by_cases h2 : b < a
    · have h2b : decide (b < a) = true := decide_eq_true h2
      have er : cmpD b a = 1 := by unfold cmpD; rw [if_neg h1, if_pos h2]
      rw [er]
      go_wp2_with (first | (go_at_call 86; refine (hn _ _).mono ?_; rintro e w' ⟨rfl, rfl⟩))
      go_ret
      exact ⟨rfl, rfl⟩
    · have h2b : decide (b < a) = false := decide_eq_false h2
      have er : cmpD b a = 0 := by unfold cmpD; rw [if_neg h1, if_neg h2]
      rw [er]
      go_wp2_with (first | (go_at_call 86; refine (hn _ _).mono ?_; rintro e w' ⟨rfl, rfl⟩))
      go_ret
      exact ⟨rfl, rfl⟩
set_option maxHeartbeats 4000000 in
set_option maxRecDepth 100000 in
theorem down_k (x y : Int) (W : World) : Calls Try.prog 62 (#[encU x, encU y] ++ #[]) W fun e w' => e = .returned (.int .i64 (cmpD x y)) ∧ w' = W := by
  show Calls Try.prog 62 #[.int .u64 x, .int .u64 y] W _
  have hcon := compare_k y x
  generalize cmpD x y = r at hcon ⊢
  go_enter Try.func62, Try.ntmps62
  go_wp2_with (first | (go_at_call 63; refine (hcon _).mono ?_; rintro e w' ⟨rfl, rfl⟩))
  go_ret
  exact ⟨rfl, rfl⟩
end Go.Proofs.Ytgebhidpkcjpmaa.K

namespace Go.Proofs.Ytgebhidpkcjpmaa.K
open Go.RowKit Go.Proofs.YtgebhidpkcjpmaaW.PrintWords Go.Proofs.YtgebhidpkcjpmaaW.PrintLast Go.Proofs.YtgebhidpkcjpmaaW.PrintMore Go.Proofs.Ytgebhidpkcjpmaa
attribute [local go_sem] max2_int min2_int max_two min_two max_three min_three max_four min_four
set_option linter.unusedVariables false
set_option linter.unusedSimpArgs false
open Go Go.RowKit Go.Maps Go.Sort
attribute [local go_sem] Oper.semAt_some
theorem oneU : Go.Proofs.OneCell encU := fun _ => rfl
theorem holdsU {w : World} {base g cap : Nat} {es : List Int} (h : w.ownsRow base 47 1 (.slice (some ⟨g, 0, none⟩) es.length cap) es.length (es.map encU)) : Go.Sort.Holds encU w g 0 es.toArray := by
  obtain ⟨_, h2⟩ := h
  rcases h2 with ⟨hv, _⟩ | ⟨g', cap', cur, hv, hb, hh, hnc, hcm, hcs, ht⟩
  · cases hv
  injection hv with ha _ hc
  injection ha with ha
  injection ha with hg
  subst hg
  intro j hj
  have hj' : j < es.length := by simpa using hj
  refine ⟨?_, by simp [World.frozen?, hh]⟩
  rw [Nat.mul_one] at ht
  have h3 : (cur.toList.take es.length)[j]? = (es.map encU)[j]? := by rw [ht]
  rw [List.getElem?_take_of_lt hj'] at h3
  simp only [World.cell?, hh, Nat.zero_add]
  simp only [Option.isSome_none, Bool.false_eq_true, if_false]
  rw [← Array.getElem?_toList, h3]
  simp [hj']
theorem sortedU {w : World} {base g cap n : Nat} {os : Array Obj} {es ts : List Int} (h : w.ownsRow base 47 1 (.slice (some ⟨g, 0, none⟩) es.length cap) es.length (es.map encU)) (hd : ts.length = es.length) :
    (Go.Proofs.sortWorld encU w g 0 n ts.toArray os).ownsRow base 47 1 (.slice (some ⟨g, 0, none⟩) es.length cap) ts.length (ts.map encU) ∧ w.grownBy (Go.Proofs.sortWorld encU w g 0 n ts.toArray os) (some g) := by
  obtain ⟨_, h2⟩ := h
  rcases h2 with ⟨hv, _⟩ | ⟨g', cap', cur, hv, hb, hh, hnc, hcm, hcs, ht⟩
  · cases hv
  injection hv with ha _ hc
  injection ha with ha
  injection ha with hg
  subst hg; subst hc
  have hgl : g < w.heap.size := (Array.getElem?_eq_some_iff.1 hh).1
  have hheap : (Go.Proofs.sortWorld encU w g 0 n ts.toArray os).heap[g]? = some (.cells (Go.Sort.putCells encU 0 ts.toArray cur) 47 (0, 0)) := by
    unfold Go.Proofs.sortWorld
    rw [Go.Sort.heap_grow_old _ _ (by simpa [Go.Sort.putRow, Go.Sort.mapBlock, Go.Sort.ahead] using hgl)]
    simp [Go.Sort.putRow, Go.Sort.mapBlock, Go.Sort.ahead, Array.getElem?_modify, hh, Go.Sort.onCells]
  have hgr : w.grownBy (Go.Proofs.sortWorld encU w g 0 n ts.toArray os) (some g) := by
    refine ⟨rfl, rfl, rfl, by simp [Go.Proofs.sortWorld, Go.Sort.grow, Go.Sort.putRow, Go.Sort.mapBlock, Go.Sort.ahead], fun k hk hne => ?_⟩
    unfold Go.Proofs.sortWorld
    rw [Go.Sort.heap_grow_old _ _ (by simpa [Go.Sort.putRow, Go.Sort.mapBlock, Go.Sort.ahead] using hk)]
    have : g ≠ k := fun e => hne (by rw [e])
    simp [Go.Sort.putRow, Go.Sort.mapBlock, Go.Sort.ahead, Array.getElem?_modify, this]
  refine ⟨⟨by simp, Or.inr ⟨g, cap, _, by rw [hd], hb, hheap, by rw [hd]; exact hnc, hcm, by simp [Go.Sort.putCells, hcs], ?_⟩⟩, hgr⟩
  have hfit : ts.length ≤ cur.size := by rw [hcs, hd]; omega
  rw [Nat.mul_one]
  apply List.ext_getElem?
  intro j
  by_cases hj : j < ts.length
  · rw [List.getElem?_take_of_lt hj, Array.getElem?_toList]
    have hj3 : j < cur.size := by omega
    simp [Go.Sort.putCells, hj, hj3]
  · rw [List.getElem?_take_eq_none (by omega), List.getElem?_eq_none (by simp; omega)]

/-- slices.SortFunc(row, down). -/
theorem sortU_k (w : World) (base : Nat) (v : Value) (es : List Int) (h : w.ownsRow base 47 1 v es.length (es.map encU)) (hsz : es.length < 4611686018427387904) :
    Calls Try.prog 88 #[v, .func (.func 62) #[] #[]] w fun e w' => e = .returned (.tuple #[]) ∧ ∃ ts : List Int, ts.Perm es ∧ ts.Pairwise (fun a b => b ≤ a) ∧ w'.ownsRow base 47 1 v ts.length (ts.map encU) ∧ w.grownBy w' v.ownBlock := by
  have h0 := h
  rcases h0.2 with ⟨rfl, hz⟩ | ⟨g, cap, cur, rfl, hbase, hgb, r1, r2, r3, r4⟩
  · have hnil : es = [] := List.length_eq_zero_iff.1 hz
    subst hnil
    have hcon := Go.Proofs.AnyF.slices_SortFunc_none (P := Try.prog) (ρ := sortU_ren) { sortU with } none 0 (.func (.func 62) #[] #[]) w
    change Calls Try.prog 88 _ _ _ at hcon
    refine hcon.mono ?_
    rintro e w' ⟨rfl, rfl⟩
    exact ⟨rfl, [], List.Perm.refl _, List.Pairwise.nil, h, ⟨rfl, rfl, rfl, Nat.le_refl _, fun _ _ _ => rfl⟩⟩
  · have hgl : g < w.heap.size := (Array.getElem?_eq_some_iff.1 hgb).1
    have eg : ∀ args w, (callFunc 62 args).run Try.prog w = .ok (.enter 62 args) w := enters_of Try.func62 (by kernel_rfl) rfl
    have hcon := Go.Proofs.Any.slices_SortFunc_total sortU encU oneU cmpD swoD 62 #[] g 0 cap es.toArray w eg (fun m os dk _ x y => (down_k x y _).mono (fun e w' hh => ⟨hh.1, 0, #[], by rw [hh.2]; simp [World.drewN]⟩)) (holdsU h) hgl (by simpa using hsz) (fun x y h1 h2 => by
      rw [ltOf_cmpD] at h1 h2; simp at h1 h2; omega)
    change Calls Try.prog 88 _ _ _ at hcon
    rw [List.size_toArray] at hcon
    refine hcon.mono ?_
    rintro e w' ⟨rfl, n, os, rfl⟩
    have hperm : (es.mergeSort (fun x y => !(Go.Proofs.ltOf cmpD) y x)).Perm es := List.mergeSort_perm _ _
    have hpw : (es.mergeSort (fun x y => !(Go.Proofs.ltOf cmpD) y x)).Pairwise (fun a b => (!(Go.Proofs.ltOf cmpD) b a) = true) := List.pairwise_mergeSort (fun a b c h1 h2 => by
      rw [ltOf_cmpD] at *; simp at *; omega) (fun a b => by rw [ltOf_cmpD, ltOf_cmpD]; simp; omega) es
    obtain ⟨hR, hgr⟩ := sortedU (n := n) (os := os) h hperm.length_eq
    refine ⟨rfl, _, hperm, hpw.imp (fun {a b} hh => by rw [ltOf_cmpD] at hh; simpa using hh), hR, hgr⟩

set_option maxHeartbeats 2000000 in
/-- slices.SortedFunc(seq, down). -/
theorem sortedFunc_k (g : Nat) (lb : Array Value) (eg : ∀ args w, (callFunc g args).run Try.prog w = .ok (.enter g args) w)
    (S Sp : List Int → Prop) (N : Nat) (hN : N ≤ maxLen) (hNb : N * 8 ≤ 140737488355328) (w : World) (hseq : SeqStops Fence.wide 2 Try.prog g lb encU (fun ss => S ss ∧ ss.length ≤ N) Sp N w) :
    Calls Try.prog 64 #[.func (.func g) #[] lb, .func (.func 62) #[] #[]] w fun e w' => ∃ (v : Value) (ss ts : List Int), e = .returned v ∧ S ss ∧ ss.length ≤ N ∧ ts.Perm ss ∧ ts.Pairwise (fun a b => b ≤ a) ∧ w'.ownsRow w.heap.size 47 1 v ts.length (ts.map encU) ∧ Below w.heap.size w w' := by
  refine (callsIn_wide (n := 5)).1 ?_
  have hcol := collect_in Fence.wide 4 trivial trivial rfl (by omega) g lb trivial eg _ Sp N hN hNb w hseq
  have hsrt := fun (W : World) (v : Value) (es : List Int) h hsz => callsIn_wide (n := 4) |>.2 (sortU_k W w.heap.size v es h hsz)
  have hfc : Fence.wide.fn 87 := trivial
  have hfs : Fence.wide.fn 88 := trivial
  refine callsIn_of_wp Try.func64 rfl trivial ?_ rfl
  simp only [Try.ntmps64, List.size_toArray, List.length_cons, List.length_nil, Nat.reduceAdd, Nat.reduceSub, Array.replicate_succ, Array.replicate_zero, List.push_toArray, List.append_toArray, List.nil_append, List.cons_append]
  gi_wp2_with (first
    | (gi_at_call 87; refine hcol.mono ?_; rintro e w' ⟨v, ss, rfl, ⟨hS, hlen⟩, hrow, hb⟩)
    | (gi_at_call 88; refine (hsrt _ _ ss hrow (by omega)).mono ?_; rintro e w'' ⟨rfl, ts, hp, hpw, hrow2, hgr⟩))
  go_ret
  exact ⟨v, ss, ts, rfl, hS, hlen, hp, hpw, hrow2, hb.grown hgr hb.size (fun k hk => own_base hrow k hk)⟩
end Go.Proofs.Ytgebhidpkcjpmaa.K

