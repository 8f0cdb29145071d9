/- DictNobody. (The texts that the proof is made of, one behind the other: part 15 of 18.) -/
import Derived.Test.YtgebhidpkcjpmaaProg
import Derived.Below
import Derived.Deep.Draws
import Derived.Deep.AppendLies
import Derived.Maps.AppendAt
import Derived.OwnWalk
import Derived.Laws.BytesArg
import Derived.Laws.MakeOwn
import Derived.Laws.OwnMore
import Derived.Deep.OwnRows
import Derived.Tactics
import Derived.Lib.ConvBytes
import Derived.Laws.Slices
import Derived.WalkKit
import Derived.KernelRfl
import Derived.RowKit3
import Derived.Deep.LoopGhost
import Derived.Deep.QuietTactic
import Derived.BigQuiet
import Derived.WideLaws
import Derived.Deep.DeepCutAuto
import Derived.Deep.CutBlock
import Derived.Deep.RegionHeld3
import Derived.Laws.Rows
import Derived.Lib.AppendStr
import Derived.ArgAppend
import Derived.Laws.IdiomCopy
import Derived.OrdersHeld
import Derived.Laws.BitsLemmas
import Derived.RowKit
import Derived.Lib.OthersKept
import Derived.WalkSmall
import Derived.Deep.RegionLaw
import Derived.BigRegion
import Derived.Laws.EntriesVeiled
import Derived.Test.YtgebhidpkcjpmaaZDictNobodya
import Derived.Test.YtgebhidpkcjpmaaZDictNobodyb
import Derived.Test.YtgebhidpkcjpmaaZDictNobodyc
import Derived.Test.YtgebhidpkcjpmaaZDictNobodyd
import Derived.Test.YtgebhidpkcjpmaaZDictNobodye
import Derived.Test.YtgebhidpkcjpmaaZDictNobodyf
import Derived.Test.YtgebhidpkcjpmaaZDictNobodyg
import Derived.Test.YtgebhidpkcjpmaaZDictNobodyh
import Derived.Test.YtgebhidpkcjpmaaZDictNobodyi
import Derived.Test.YtgebhidpkcjpmaaZDictNobodyj
import Derived.Test.YtgebhidpkcjpmaaZDictNobodyk
import Derived.Test.YtgebhidpkcjpmaaZDictNobodyl
import Derived.Test.YtgebhidpkcjpmaaZDictNobodym
import Derived.Test.YtgebhidpkcjpmaaZDictNobodyn
namespace Go.Proofs.Ytgebhidpkcjpmaa.PFg
open Go.RowKit Go.Proofs.YtgebhidpkcjpmaaW.PrintWords Go.Proofs.YtgebhidpkcjpmaaW.PrintLast Go.Proofs.YtgebhidpkcjpmaaW.PrintMore Go.Proofs.Ytgebhidpkcjpmaa.K Go.Proofs.Ytgebhidpkcjpmaa.PDk Go.Proofs.Ytgebhidpkcjpmaa.PDm Go.Proofs.Ytgebhidpkcjpmaa.PEn Go.Proofs.Ytgebhidpkcjpmaa.PFl Go.Proofs.Ytgebhidpkcjpmaa.PIx Go.Proofs.Ytgebhidpkcjpmaa.PLg Go.Proofs.Ytgebhidpkcjpmaa.PMk Go.Proofs.Ytgebhidpkcjpmaa.PR13
attribute [local go_sem] max2_int min2_int max_two min_two max_three min_three max_four min_four   -- for this text's walks alone
set_option linter.unusedVariables false
set_option linter.unusedSimpArgs false

def frame_Get.f (k : Nat) (l0 : List Int) : Option (List Int × Int × Int) := (num_Get.f l0).bind fun bt101 => (if bt101.2.2 = 0 then (if bt101.1 > 1048576 then (some (([] : List Int), 0, 2)) else (if (l0.length : Int) < (wrap64 ((wrap64 (bt101.2.1 + (wrap64 (bt101.1)))) + 4)) then (some (([] : List Int), 0, 3)) else (if 0 ≤ bt101.2.1 then (if bt101.2.1 ≤ (wrap64 (bt101.2.1 + (wrap64 (bt101.1)))) then (if (wrap64 (bt101.2.1 + (wrap64 (bt101.1)))) ≤ (l0.length : Int) then ((bytes_Clone.f ((l0.take ((wrap64 (bt101.2.1 + (wrap64 (bt101.1)))) : Int).toNat).drop (bt101.2.1 : Int).toNat)).bind fun t105 => (if 0 ≤ (wrap64 (bt101.2.1 + (wrap64 (bt101.1)))) then (if (wrap64 (bt101.2.1 + (wrap64 (bt101.1)))) ≤ (wrap64 ((wrap64 (bt101.2.1 + (wrap64 (bt101.1)))) + 4)) then (if (wrap64 ((wrap64 (bt101.2.1 + (wrap64 (bt101.1)))) + 4)) ≤ (l0.length : Int) then ((frame_sum.f k t105).bind fun t109 => ((bytes_Equal.f ((l0.take ((wrap64 ((wrap64 (bt101.2.1 + (wrap64 (bt101.1)))) + 4)) : Int).toNat).drop ((wrap64 (bt101.2.1 + (wrap64 (bt101.1)))) : Int).toNat) t109).bind fun t112 => (if t112 = true then (some (t105, wrap64 ((wrap64 (bt101.2.1 + (wrap64 (bt101.1)))) + 4), 0)) else (some (([] : List Int), 0, 4))))) else (none)) else (none)) else (none))) else (none)) else (none)) else (none)))) else (some (([] : List Int), 0, bt101.2.2)))
def frame_Get.T10 : Bool × List (List Nat × List Nat) := (true, [([], []), ([], []), ([], []), ([2], [2]), ([0, 1, 3], [0, 1, 3]), ([], []), ([5], [5]), ([4, 6, 6], [4, 6]), ([7], [7])])
def frame_Get.B10 : List Nat := [0, 0, 0, 4, 15, 0, 32, 127, 255]
theorem frame_Get.tab10 : rtab .any (opsOf Try.f78 10) = frame_Get.T10 := by kernel_rfl
theorem frame_Get.bits10 : waitsOk frame_Get.T10.2 frame_Get.B10 = true := by kernel_rfl
set_option maxHeartbeats 8000000 in
set_option maxRecDepth 100000 in
theorem frame_Get.calls (k : Nat) (A0 : Option Addr) (c0 : Nat) (l0 : List Int) (r1 : List Int) (r2 : Int) (r3 : Int) (w : World) (hr0 : Kd.C (Kd.int .u8) w A0 l0.length l0) (hc0 : l0.length ≤ c0) (h : frame_Get.f k l0 = some (r1, r2, r3)) :
    Calls Try.prog 78 #[.slice A0 l0.length c0] w fun e w' => ∃ v0_ : Value, e = .returned (.tuple #[v0_, .int .i64 r2, .int .i64 r3]) ∧ Kd.R (Kd.int .u8) 5 w' w.heap.size (fun _ => True) v0_ r1 ∧ Below w.heap.size w w' := by
  have HR0 := Aside0.mk hr0
  have HC0 := Aside0.mk hc0
  clear hr0 hc0
  have HB := Aside0.mk (Below.refl w.heap.size w)
  have H : ((num_Get.f l0).bind fun bt101 => (if bt101.2.2 = 0 then (if bt101.1 > 1048576 then (some (([] : List Int), 0, 2)) else (if (l0.length : Int) < (wrap64 ((wrap64 (bt101.2.1 + (wrap64 (bt101.1)))) + 4)) then (some (([] : List Int), 0, 3)) else (if 0 ≤ bt101.2.1 then (if bt101.2.1 ≤ (wrap64 (bt101.2.1 + (wrap64 (bt101.1)))) then (if (wrap64 (bt101.2.1 + (wrap64 (bt101.1)))) ≤ (l0.length : Int) then ((bytes_Clone.f ((l0.take ((wrap64 (bt101.2.1 + (wrap64 (bt101.1)))) : Int).toNat).drop (bt101.2.1 : Int).toNat)).bind fun t105 => (if 0 ≤ (wrap64 (bt101.2.1 + (wrap64 (bt101.1)))) then (if (wrap64 (bt101.2.1 + (wrap64 (bt101.1)))) ≤ (wrap64 ((wrap64 (bt101.2.1 + (wrap64 (bt101.1)))) + 4)) then (if (wrap64 ((wrap64 (bt101.2.1 + (wrap64 (bt101.1)))) + 4)) ≤ (l0.length : Int) then ((frame_sum.f k t105).bind fun t109 => ((bytes_Equal.f ((l0.take ((wrap64 ((wrap64 (bt101.2.1 + (wrap64 (bt101.1)))) + 4)) : Int).toNat).drop ((wrap64 (bt101.2.1 + (wrap64 (bt101.1)))) : Int).toNat) t109).bind fun t112 => (if t112 = true then (some (t105, wrap64 ((wrap64 (bt101.2.1 + (wrap64 (bt101.1)))) + 4), 0)) else (some (([] : List Int), 0, 4))))) else (none)) else (none)) else (none))) else (none)) else (none)) else (none)))) else (some (([] : List Int), 0, bt101.2.2)))) = some (r1, r2, r3) := h
  clear h
  replace H := Option.bind_eq_some_iff.mp H
  obtain ⟨⟨t101, t102, t103⟩, A20, H⟩ := H
  replace H : (if t103 = 0 then (if t101 > 1048576 then (some (([] : List Int), 0, 2)) else (if (l0.length : Int) < (wrap64 ((wrap64 (t102 + (wrap64 (t101)))) + 4)) then (some (([] : List Int), 0, 3)) else (if 0 ≤ t102 then (if t102 ≤ (wrap64 (t102 + (wrap64 (t101)))) then (if (wrap64 (t102 + (wrap64 (t101)))) ≤ (l0.length : Int) then ((bytes_Clone.f ((l0.take ((wrap64 (t102 + (wrap64 (t101)))) : Int).toNat).drop (t102 : Int).toNat)).bind fun t105 => (if 0 ≤ (wrap64 (t102 + (wrap64 (t101)))) then (if (wrap64 (t102 + (wrap64 (t101)))) ≤ (wrap64 ((wrap64 (t102 + (wrap64 (t101)))) + 4)) then (if (wrap64 ((wrap64 (t102 + (wrap64 (t101)))) + 4)) ≤ (l0.length : Int) then ((frame_sum.f k t105).bind fun t109 => ((bytes_Equal.f ((l0.take ((wrap64 ((wrap64 (t102 + (wrap64 (t101)))) + 4)) : Int).toNat).drop ((wrap64 (t102 + (wrap64 (t101)))) : Int).toNat) t109).bind fun t112 => (if t112 = true then (some (t105, wrap64 ((wrap64 (t102 + (wrap64 (t101)))) + 4), 0)) else (some (([] : List Int), 0, 4))))) else (none)) else (none)) else (none))) else (none)) else (none)) else (none)))) else (some (([] : List Int), 0, t103))) = some (r1, r2, r3) := H
  have A2 := Aside0.mk A20
  clear A20
  by_cases c3 : t103 = 0
  · rw [if_pos c3] at H
    have c3b0 : (t103 == 0) = true := beq_iff_eq.mpr c3
    have c3b1 : (t103 != 0) = false := bne_eq_false_iff_eq.mpr c3
    clear c3
    by_cases c4 : t101 > 1048576
    · rw [if_pos c4] at H
      have c4b0 : decide (1048576 < t101) = true := decide_eq_true c4
      clear c4
      simp only [Option.some.injEq, Prod.mk.injEq] at H
      obtain ⟨rfl, rfl, rfl⟩ := H
      go_enter Try.func78, Try.ntmps78
      go_wp2_with (first | ((with_reducible refine gate_callee (f := 80) rfl ?_); refine goesL_ (some 12) rfl rfl Try.func80 (by kernel_rfl) rfl #[.slice A0 l0.length c0] rfl (by (try simp only [List.map_toArray, List.map_cons, List.map_nil]); first | done | rfl | (simp only [List.length_drop, List.length_take]; rfl)) ?_; (with_reducible refine (num_Get.calls _ _ l0 t101 t102 t103 _ ?side1 ?side2 A2.out).mono ?_); (case side1 => repeat (first | exact HR0.out | (with_reducible refine Kd.C_alloc ?_ _) | (with_reducible refine Kd.C_drewN ?_ _) | (with_reducible refine Kd.C_drew ?_))); (case side2 => exact HC0.out); rintro e w5 ⟨rfl, hb⟩; refine ⟨_, rfl, ?_⟩; have n0_ := Aside0.mk (below_step (by repeat (first | (with_reducible first | exact HB.out | apply below_alloc | apply pw_below_drewN | apply below_drew1) | exact HB.out)) hb); clear HB; have HB := n0_; clear n0_; (try clear hb); (try clear hb2); (try clear hk); (try clear hi)))
      go_ret3
      exact ⟨_, by first | rfl | (simp [errW_none, errW_some] <;> rfl) | (simp [*, errW_none, errW_some] <;> rfl), by first | exact Kd.R_nil _ _ _ _ _ | exact Kd.N_nil _ _ _ _ _ | exact Kd.V_nil _ _ _ _ _ | exact Kd.Q_nil _ _ _ _ _ | exact Kd.S_nil _ _ _ _ _, by repeat (first | (with_reducible first | exact HB.out | apply below_alloc | apply pw_below_drewN | apply below_drew1) | exact HB.out)⟩
    · rw [if_neg c4] at H
      have c4b0 : decide (1048576 < t101) = false := decide_eq_false c4
      clear c4
      by_cases c6 : (l0.length : Int) < (wrap64 ((wrap64 (t102 + (wrap64 (t101)))) + 4))
      · rw [if_pos c6] at H
        have c6b0 : decide ((l0.length : Int) < (wrap64 ((wrap64 (t102 + (wrap64 (t101)))) + 4))) = true := decide_eq_true c6
        clear c6
        simp only [Option.some.injEq, Prod.mk.injEq] at H
        obtain ⟨rfl, rfl, rfl⟩ := H
        go_enter Try.func78, Try.ntmps78
        go_wp2_with (first | ((with_reducible refine gate_callee (f := 80) rfl ?_); refine goesL_ (some 12) rfl rfl Try.func80 (by kernel_rfl) rfl #[.slice A0 l0.length c0] rfl (by (try simp only [List.map_toArray, List.map_cons, List.map_nil]); first | done | rfl | (simp only [List.length_drop, List.length_take]; rfl)) ?_; (with_reducible refine (num_Get.calls _ _ l0 t101 t102 t103 _ ?side1 ?side2 A2.out).mono ?_); (case side1 => repeat (first | exact HR0.out | (with_reducible refine Kd.C_alloc ?_ _) | (with_reducible refine Kd.C_drewN ?_ _) | (with_reducible refine Kd.C_drew ?_))); (case side2 => exact HC0.out); rintro e w7 ⟨rfl, hb⟩; refine ⟨_, rfl, ?_⟩; have n0_ := Aside0.mk (below_step (by repeat (first | (with_reducible first | exact HB.out | apply below_alloc | apply pw_below_drewN | apply below_drew1) | exact HB.out)) hb); clear HB; have HB := n0_; clear n0_; (try clear hb); (try clear hb2); (try clear hk); (try clear hi)))
        go_ret3
        exact ⟨_, by first | rfl | (simp [errW_none, errW_some] <;> rfl) | (simp [*, errW_none, errW_some] <;> rfl), by first | exact Kd.R_nil _ _ _ _ _ | exact Kd.N_nil _ _ _ _ _ | exact Kd.V_nil _ _ _ _ _ | exact Kd.Q_nil _ _ _ _ _ | exact Kd.S_nil _ _ _ _ _, by repeat (first | (with_reducible first | exact HB.out | apply below_alloc | apply pw_below_drewN | apply below_drew1) | exact HB.out)⟩
      · rw [if_neg c6] at H
        have c6b0 : decide ((l0.length : Int) < (wrap64 ((wrap64 (t102 + (wrap64 (t101)))) + 4))) = false := decide_eq_false c6
        clear c6
        by_cases c8 : 0 ≤ t102
        · rw [if_pos c8] at H
          have c8b0 := eq_true c8
          have c8b1 : decide (0 ≤ t102) = true := decide_eq_true c8
          clear c8
          by_cases c9 : t102 ≤ (wrap64 (t102 + (wrap64 (t101))))
          · rw [if_pos c9] at H
            have c9b0 := eq_true c9
            have c9b1 : decide (t102 ≤ (wrap64 (t102 + (wrap64 (t101))))) = true := decide_eq_true c9
            by_cases c10 : (wrap64 (t102 + (wrap64 (t101)))) ≤ (l0.length : Int)
            · rw [if_pos c10] at H
              have c10b0 := eq_true c10
              have c10b1 : decide ((wrap64 (t102 + (wrap64 (t101)))) ≤ (l0.length : Int)) = true := decide_eq_true c10
              replace H := Option.bind_eq_some_iff.mp H
              obtain ⟨t105, A110, H⟩ := H
              replace H : (if 0 ≤ (wrap64 (t102 + (wrap64 (t101)))) then (if (wrap64 (t102 + (wrap64 (t101)))) ≤ (wrap64 ((wrap64 (t102 + (wrap64 (t101)))) + 4)) then (if (wrap64 ((wrap64 (t102 + (wrap64 (t101)))) + 4)) ≤ (l0.length : Int) then ((frame_sum.f k t105).bind fun t109 => ((bytes_Equal.f ((l0.take ((wrap64 ((wrap64 (t102 + (wrap64 (t101)))) + 4)) : Int).toNat).drop ((wrap64 (t102 + (wrap64 (t101)))) : Int).toNat) t109).bind fun t112 => (if t112 = true then (some (t105, wrap64 ((wrap64 (t102 + (wrap64 (t101)))) + 4), 0)) else (some (([] : List Int), 0, 4))))) else (none)) else (none)) else (none)) = some (r1, r2, r3) := H
              have A11 := Aside0.mk A110
              clear A110
              obtain ⟨ji12, hji12⟩ : ∃ j_ : Int, (wrap64 (t102 + (wrap64 (t101)))) = j_ := ⟨_, rfl⟩
              replace H : (if 0 ≤ (ji12) then (if (ji12) ≤ (wrap64 ((ji12) + 4)) then (if (wrap64 ((ji12) + 4)) ≤ (l0.length : Int) then ((frame_sum.f k t105).bind fun t109 => ((bytes_Equal.f ((l0.take ((wrap64 ((ji12) + 4)) : Int).toNat).drop ((ji12) : Int).toNat) t109).bind fun t112 => (if t112 = true then (some (t105, wrap64 ((ji12) + 4), 0)) else (some (([] : List Int), 0, 4))))) else (none)) else (none)) else (none)) = some (r1, r2, r3) := by first | (rw [hji12] at H; exact H) | (simp only [hji12] at H ⊢; exact H)
              (try rw [hji12] at c6b0)
              (try rw [hji12] at c9b0)
              (try rw [hji12] at c9b1)
              (try rw [hji12] at c9)
              (try rw [hji12] at c10b0)
              (try rw [hji12] at c10b1)
              (try rw [hji12] at c10)
              (try rw [hji12] at A2)
              (try rw [hji12] at A11)
              have hji12w : (IntKind.i64.wrap (t102 + (wrap64 (t101)))) = ji12 := (i64_w _).trans hji12
              by_cases c13 : 0 ≤ (ji12)
              · rw [if_pos c13] at H
                have c13b0 := eq_true c13
                have c13b1 : decide (0 ≤ (ji12)) = true := decide_eq_true c13
                clear c13
                by_cases c14 : (ji12) ≤ (wrap64 ((ji12) + 4))
                · rw [if_pos c14] at H
                  have c14b0 := eq_true c14
                  have c14b1 : decide ((ji12) ≤ (wrap64 ((ji12) + 4))) = true := decide_eq_true c14
                  by_cases c15 : (wrap64 ((ji12) + 4)) ≤ (l0.length : Int)
                  · rw [if_pos c15] at H
                    have c15b0 := eq_true c15
                    have c15b1 : decide ((wrap64 ((ji12) + 4)) ≤ (l0.length : Int)) = true := decide_eq_true c15
                    replace H := Option.bind_eq_some_iff.mp H
                    obtain ⟨t109, A160, H⟩ := H
                    replace H : ((bytes_Equal.f ((l0.take ((wrap64 ((ji12) + 4)) : Int).toNat).drop ((ji12) : Int).toNat) t109).bind fun t112 => (if t112 = true then (some (t105, wrap64 ((ji12) + 4), 0)) else (some (([] : List Int), 0, 4)))) = some (r1, r2, r3) := H
                    have A16 := Aside0.mk A160
                    clear A160
                    replace H := Option.bind_eq_some_iff.mp H
                    obtain ⟨t112, A170, H⟩ := H
                    replace H : (if t112 = true then (some (t105, wrap64 ((ji12) + 4), 0)) else (some (([] : List Int), 0, 4))) = some (r1, r2, r3) := H
                    have A17 := Aside0.mk A170
                    clear A170
                    by_cases c18 : t112 = true
                    · subst c18
                      have H1 : (some (t105, wrap64 ((ji12) + 4), 0)) = some (r1, r2, r3) := by rw [if_pos rfl] at H; exact H
                      clear H
                      have H := H1
                      clear H1
                      simp only [Option.some.injEq, Prod.mk.injEq] at H
                      obtain ⟨rfl, rfl, rfl⟩ := H
                      go_enter Try.func78, Try.ntmps78
                      try go_wp2_with (first | ((with_reducible refine gate_callee (f := 80) rfl ?_); refine goesL_ (some 12) rfl rfl Try.func80 (by kernel_rfl) rfl #[.slice A0 l0.length c0] rfl (by (try simp only [List.map_toArray, List.map_cons, List.map_nil]); first | done | rfl | (simp only [List.length_drop, List.length_take]; rfl)) ?_; (with_reducible refine (num_Get.calls _ _ l0 t101 t102 t103 _ ?side1 ?side2 A2.out).mono ?_); (case side1 => repeat (first | exact HR0.out | (with_reducible refine Kd.C_alloc ?_ _) | (with_reducible refine Kd.C_drewN ?_ _) | (with_reducible refine Kd.C_drew ?_))); (case side2 => exact HC0.out); rintro e w19 ⟨rfl, hb⟩; refine ⟨_, rfl, ?_⟩; have n0_ := Aside0.mk (below_step (by repeat (first | (with_reducible first | exact HB.out | apply below_alloc | apply pw_below_drewN | apply below_drew1) | exact HB.out)) hb); clear HB; have HB := n0_; clear n0_; (try clear hb); (try clear hb2); (try clear hk); (try clear hi); obtain ⟨i020, hi020, _, hsz20, _⟩ := info_parts info5; obtain ⟨A20, hcut20, hA20, hC20⟩ := print_mid_of (P := Try.prog) (Value.int .u8) 0 36 5 .i64 .i64 Try.underlying36 hi020 hsz20 A0 c0 l0 t102 (ji12) (of_decide_eq_true (by first | (with_reducible assumption) | assumption)) (by first | omega | exact of_decide_eq_true (by first | (with_reducible assumption) | assumption)) (of_decide_eq_true (by first | (with_reducible assumption) | assumption)) HC0.out; have HR104 := Aside0.mk (Kd.C_of_reads (h1 := fun _ => rfl) (hA20 _ (Kd.reads_of_C HR0.out))); have HC104 := Aside0.mk hC20; clear hA20 hC20 hi020 hsz20) | ((with_reducible refine gate_callee (f := 96) rfl ?_); refine goesL_ (some 36) rfl rfl Try.func96 (by kernel_rfl) rfl #[.slice A20 ((l0.take ((ji12) : Int).toNat).drop (t102 : Int).toNat).length (c0 - t102.toNat)] rfl (by (try simp only [List.map_toArray, List.map_cons, List.map_nil]); first | done | (rw [show ((l0.take ((ji12) : Int).toNat).drop (t102 : Int).toNat).length = ((ji12).toNat - t102.toNat) from (by rw [List.length_drop, List.length_take]; have h_ : ((ji12) : Int) ≤ (l0.length : Int) := of_decide_eq_true (by first | (with_reducible assumption) | assumption); omega)] <;> rfl) | (simp only [hji12]; rfl) | rfl | (simp only [List.length_drop, List.length_take]; rfl)) ?_; (with_reducible refine (bytes_Clone.calls _ _ ((l0.take ((ji12) : Int).toNat).drop (t102 : Int).toNat) t105 _ ?side1 ?side2 A11.out).mono ?_); (case side1 => repeat (first | exact (Kd.C_below HR104.out HB.out) | (with_reducible refine Kd.C_alloc ?_ _) | (with_reducible refine Kd.C_drewN ?_ _) | (with_reducible refine Kd.C_drew ?_))); (case side2 => exact HC104.out); rintro e w21 ⟨v106, rfl, ho0, hb⟩; refine ⟨_, rfl, ?_⟩; have n0_ := Aside0.mk (Kd.R_lower ho0 (below_size (by repeat (first | (with_reducible first | exact HB.out | apply below_alloc | apply pw_below_drewN | apply below_drew1) | exact HB.out)))); have n1_ := Aside0.mk (below_step (by repeat (first | (with_reducible first | exact HB.out | apply below_alloc | apply pw_below_drewN | apply below_drew1) | exact HB.out)) hb); clear HB; have HO107 := n0_; have HB := n1_; clear n0_ n1_; (try clear hb); (try clear hb2); (try clear hk); (try clear hi); (try clear ho0)))
                      have n0_ := Aside0.mk (Kd.R_drew HO107.out)
                      have n1_ := Aside0.mk (below_drew1 HB.out)
                      clear HO107
                      clear HB
                      have HO107 := n0_
                      have HB := n1_
                      clear n0_ n1_
                      obtain ⟨i023, hi023, _, hsz23, _⟩ := info_parts info5
                      obtain ⟨A23, hcut23, hA23, hC23⟩ := print_mid_of (P := Try.prog) (Value.int .u8) 0 36 5 .i64 .i64 Try.underlying36 hi023 hsz23 A0 c0 l0 (ji12) (wrap64 ((ji12) + 4)) (of_decide_eq_true (by first | (with_reducible assumption) | assumption)) (by first | omega | exact of_decide_eq_true (by first | (with_reducible assumption) | assumption)) (of_decide_eq_true (by first | (with_reducible assumption) | assumption)) HC0.out
                      have HR108 := Aside0.mk (Kd.C_of_reads (h1 := fun _ => rfl) (hA23 _ (Kd.reads_of_C HR0.out)))
                      have HC108 := Aside0.mk hC23
                      clear hA23 hC23 hi023 hsz23
                      obtain ⟨Ao24, co24, eo24⟩ := Kd.R_slice HO107.out
                      (first | subst eo24 | (injection eo24 with f1_ f2_ f3_; have f4_ := f1_.symm; have f5_ := f3_.symm; clear f1_ f2_ f3_; subst f4_; subst f5_))
                      refine start_ (n := 9) (S := fun w' => True) (ds := []) #[false, false, false, false, false, false, false, false, false] (by kernel_rfl) rfl rfl trivial (fun hHeld => ?_); refine with_tabW frame_Get.tab10 frame_Get.bits10 (fun HT_ HW_ => ?_)
                      generalize w21.drew = w22 at HO107 HB HR108 hHeld ⊢
                      refine pure_ (i := 0) (N := some 37) (v := ?_) (a' := ?_) #[true, false, false, false, false, false, false, false, false] rfl rfl (any_of HT_.out (by kernel_rfl)) (fun _ _ _ h => h) (Or.inl ⟨by rfl, ?_⟩) ?_ ?_
                      rotate_left
                      · intro w'
                        go_simp
                        with_reducible rfl
                      rotate_left
                      · simp only [Act.put, List.setIfInBounds_toArray, List.set_cons_zero, List.set_cons_succ, i64_w, i32_w]
                        rfl
                      refine pure_ (i := 1) (N := some 38) (v := ?_) (a' := ?_) #[true, true, false, false, false, false, false, false, false] rfl rfl (any_of HT_.out (by kernel_rfl)) (fun _ _ _ h => h) (Or.inl ⟨by rfl, ?_⟩) ?_ ?_
                      rotate_left
                      · intro w'
                        go_simp
                        with_reducible rfl
                      rotate_left
                      · simp only [Act.put, List.setIfInBounds_toArray, List.set_cons_zero, List.set_cons_succ, i64_w, i32_w]
                        rfl
                      refine pure_ (i := 2) (N := some 39) (v := ?_) (a' := ?_) #[true, true, true, false, false, false, false, false, false] rfl rfl (any_of HT_.out (by kernel_rfl)) (fun _ _ _ h => h) (Or.inl ⟨by rfl, ?_⟩) ?_ ?_
                      rotate_left
                      · intro w'
                        go_simp
                        with_reducible rfl
                      rotate_left
                      · simp only [Act.put, List.setIfInBounds_toArray, List.set_cons_zero, List.set_cons_succ, i64_w, i32_w]
                        rfl
                      refine pure_ (i := 3) (N := some 40) (v := ?_) (a' := ?_) #[true, true, true, true, false, false, false, false, false] rfl rfl (any_of HT_.out (by kernel_rfl)) (fun _ _ _ h => h) (Or.inl ⟨by rfl, ?_⟩) ?_ ?_
                      rotate_left
                      · intro w'
                        go_simp
                        with_reducible rfl
                      rotate_left
                      · simp only [Act.put, List.setIfInBounds_toArray, List.set_cons_zero, List.set_cons_succ, i64_w, i32_w]
                        rfl
                      refine pure_ (i := 4) (N := some 41) (v := ?_) (a' := ?_) #[true, true, true, true, true, false, false, false, false] rfl rfl (any_of HT_.out (by kernel_rfl)) (fun _ _ _ h => h) (Or.inl ⟨by rfl, ?_⟩) ?_ ?_
                      rotate_left
                      · intro w'
                        go_simp
                        with_reducible rfl
                      rotate_left
                      · simp only [Act.put, List.setIfInBounds_toArray, List.set_cons_zero, List.set_cons_succ, i64_w, i32_w]
                        rfl
                      refine pure_ (i := 5) (N := some 42) (v := ?_) (a' := ?_) #[true, true, true, true, true, true, false, false, false] rfl rfl (any_of HT_.out (by kernel_rfl)) (fun _ _ _ h => h) (Or.inl ⟨by rfl, ?_⟩) ?_ ?_
                      rotate_left
                      · intro w'
                        go_simp
                        with_reducible rfl
                      rotate_left
                      · simp only [Act.put, List.setIfInBounds_toArray, List.set_cons_zero, List.set_cons_succ, i64_w, i32_w]
                        rfl
                      refine one_ (i := 6) (N := some 43) #[true, true, true, true, true, true, true, false, false] rfl rfl (one_of HT_.out (by kernel_rfl)) (by decide) (fun K hK => ?_)
                      refine goes_ Try.func74 (by kernel_rfl) rfl #[.slice Ao24 t105.length co24] (by rfl) rfl rfl (by (try simp only [List.map_toArray, List.map_cons, List.map_nil]); first | done | rfl | (simp only [List.length_drop, List.length_take]; rfl)) ?_
                      with_reducible refine (frame_sum.calls k _ _ t105 t109 _ ?side1 ?side2 A16.out).mono ?_
                      (case side1 => repeat (first | exact (Kd.R_reads' HO107.out).2.2 | (with_reducible refine Kd.C_alloc ?_ _) | (with_reducible refine Kd.C_drewN ?_ _) | (with_reducible refine Kd.C_drew ?_)))
                      (case side2 => exact (Kd.R_reads' HO107.out).2.1)
                      rintro e w25 ⟨v110, rfl, ho0, hb⟩
                      refine ⟨_, rfl, ?_⟩
                      have n0_ := Aside0.mk (Kd.R_elder' (by (with_reducible repeat (first | apply Kd.R_alloc | apply Kd.R_drewN | apply Kd.R_drew)); exact HO107.out) (Kd.R_base ho0) hb)
                      have n1_ := Aside0.mk (Kd.R_lower (Kd.R_new' ho0 (Kd.R_lt (by (with_reducible repeat (first | apply Kd.R_alloc | apply Kd.R_drewN | apply Kd.R_drew)); exact HO107.out))) (below_size (by repeat (first | (with_reducible first | exact HB.out | apply below_alloc | apply pw_below_drewN | apply below_drew1) | exact HB.out))))
                      have n2_ := Aside0.mk (below_step (by repeat (first | (with_reducible first | exact HB.out | apply below_alloc | apply pw_below_drewN | apply below_drew1) | exact HB.out)) hb)
                      clear HO107
                      clear HB
                      have HO107 := n0_
                      have HO111 := n1_
                      have HB := n2_
                      clear n0_ n1_ n2_
                      (try clear hb)
                      (try clear hb2)
                      (try clear hk)
                      (try clear hi)
                      (try clear ho0)
                      obtain ⟨Ao26, co26, eo26⟩ := Kd.R_slice HO111.out
                      (first | subst eo26 | (injection eo26 with f1_ f2_ f3_; have f4_ := f1_.symm; have f5_ := f3_.symm; clear f1_ f2_ f3_; subst f4_; subst f5_))
                      refine hK.out _ _ trivial (fun hHeld => ?_)
                      clear hK K
                      refine norm_ (a' := ?_) ?_ ?_
                      rotate_left
                      · show Act.put _ (some 43) _ = _
                        simp only [Act.put, List.setIfInBounds_toArray, List.set_cons_zero, List.set_cons_succ, i64_w, i32_w]
                        rfl
                      refine one_ (i := 7) (N := some 44) #[true, true, true, true, true, true, true, true, false] rfl rfl (one_of HT_.out (by kernel_rfl)) (by decide) (fun K hK => ?_)
                      refine goes_ Try.func51 (by kernel_rfl) rfl #[.slice A23 ((l0.take ((wrap64 ((ji12) + 4)) : Int).toNat).drop ((ji12) : Int).toNat).length (c0 - (ji12).toNat), .slice Ao26 t109.length co26] (by rfl) rfl rfl (by (try simp only [List.map_toArray, List.map_cons, List.map_nil]); first | done | (rw [show ((l0.take ((wrap64 ((ji12) + 4)) : Int).toNat).drop ((ji12) : Int).toNat).length = ((wrap64 ((ji12) + 4)).toNat - (ji12).toNat) from (by rw [List.length_drop, List.length_take]; have h_ : ((wrap64 ((ji12) + 4)) : Int) ≤ (l0.length : Int) := of_decide_eq_true (by first | (with_reducible assumption) | assumption); omega)] <;> rfl) | (simp only [hji12]; rfl) | rfl | (simp only [List.length_drop, List.length_take]; rfl)) ?_
                      with_reducible refine (bytes_Equal.calls _ _ ((l0.take ((wrap64 ((ji12) + 4)) : Int).toNat).drop ((ji12) : Int).toNat) _ _ t109 true _ ?side1 ?side2 ?side3 ?side4 A17.out).mono ?_
                      (case side1 => repeat (first | exact (Kd.C_below HR108.out HB.out) | (with_reducible refine Kd.C_alloc ?_ _) | (with_reducible refine Kd.C_drewN ?_ _) | (with_reducible refine Kd.C_drew ?_)))
                      (case side2 => exact HC108.out)
                      (case side3 => repeat (first | exact (Kd.R_reads' HO111.out).2.2 | (with_reducible refine Kd.C_alloc ?_ _) | (with_reducible refine Kd.C_drewN ?_ _) | (with_reducible refine Kd.C_drew ?_)))
                      (case side4 => exact (Kd.R_reads' HO111.out).2.1)
                      rintro e w' ⟨rfl, ⟨nd, rfl⟩⟩
                      refine ⟨_, rfl, ?_⟩
                      refine hK.out _ _ trivial (fun hHeld => ?_)
                      clear hK K
                      refine norm_ (a' := ?_) ?_ ?_
                      rotate_left
                      · show Act.put _ (some 44) _ = _
                        simp only [Act.put, List.setIfInBounds_toArray, List.set_cons_zero, List.set_cons_succ, i64_w, i32_w]
                        rfl
                      refine pure_ (i := 8) (N := some 45) (v := ?_) (a' := ?_) #[true, true, true, true, true, true, true, true, true] rfl rfl (any_of HT_.out (by kernel_rfl)) (fun _ _ _ h => h) (Or.inl ⟨by rfl, ?_⟩) ?_ ?_
                      rotate_left
                      · intro w'
                        go_simp
                        with_reducible rfl
                      rotate_left
                      · simp only [Act.put, List.setIfInBounds_toArray, List.set_cons_zero, List.set_cons_succ, i64_w, i32_w]
                        rfl
                      refine done_ (done_of HT_.out (by kernel_rfl)) ?_
                      try go_wp2
                      go_ret3
                      exact ⟨_, by first | rfl | (simp [errW_none, errW_some] <;> rfl) | (simp only [← hji12]; first | rfl | (simp [errW_none, errW_some] <;> rfl)) | (simp [*, errW_none, errW_some] <;> rfl), by (with_reducible repeat (first | apply Kd.R_alloc | apply Kd.R_drewN | apply Kd.R_drew)); exact Kd.R_mono HO107.out (fun _ hk => trivial), by repeat (first | (with_reducible first | exact HB.out | apply below_alloc | apply pw_below_drewN | apply below_drew1) | exact HB.out)⟩
                    · replace c18 := Bool.eq_false_iff.mpr c18
                      subst c18
                      have H1 : (some (([] : List Int), 0, 4)) = some (r1, r2, r3) := by rw [if_neg (show ¬ (false = true) by decide)] at H; exact H
                      clear H
                      have H := H1
                      clear H1
                      simp only [Option.some.injEq, Prod.mk.injEq] at H
                      obtain ⟨rfl, rfl, rfl⟩ := H
                      go_enter Try.func78, Try.ntmps78
                      try go_wp2_with (first | ((with_reducible refine gate_callee (f := 80) rfl ?_); refine goesL_ (some 12) rfl rfl Try.func80 (by kernel_rfl) rfl #[.slice A0 l0.length c0] rfl (by (try simp only [List.map_toArray, List.map_cons, List.map_nil]); first | done | rfl | (simp only [List.length_drop, List.length_take]; rfl)) ?_; (with_reducible refine (num_Get.calls _ _ l0 t101 t102 t103 _ ?side1 ?side2 A2.out).mono ?_); (case side1 => repeat (first | exact HR0.out | (with_reducible refine Kd.C_alloc ?_ _) | (with_reducible refine Kd.C_drewN ?_ _) | (with_reducible refine Kd.C_drew ?_))); (case side2 => exact HC0.out); rintro e w27 ⟨rfl, hb⟩; refine ⟨_, rfl, ?_⟩; have n0_ := Aside0.mk (below_step (by repeat (first | (with_reducible first | exact HB.out | apply below_alloc | apply pw_below_drewN | apply below_drew1) | exact HB.out)) hb); clear HB; have HB := n0_; clear n0_; (try clear hb); (try clear hb2); (try clear hk); (try clear hi); obtain ⟨i028, hi028, _, hsz28, _⟩ := info_parts info5; obtain ⟨A28, hcut28, hA28, hC28⟩ := print_mid_of (P := Try.prog) (Value.int .u8) 0 36 5 .i64 .i64 Try.underlying36 hi028 hsz28 A0 c0 l0 t102 (ji12) (of_decide_eq_true (by first | (with_reducible assumption) | assumption)) (by first | omega | exact of_decide_eq_true (by first | (with_reducible assumption) | assumption)) (of_decide_eq_true (by first | (with_reducible assumption) | assumption)) HC0.out; have HR104 := Aside0.mk (Kd.C_of_reads (h1 := fun _ => rfl) (hA28 _ (Kd.reads_of_C HR0.out))); have HC104 := Aside0.mk hC28; clear hA28 hC28 hi028 hsz28) | ((with_reducible refine gate_callee (f := 96) rfl ?_); refine goesL_ (some 36) rfl rfl Try.func96 (by kernel_rfl) rfl #[.slice A28 ((l0.take ((ji12) : Int).toNat).drop (t102 : Int).toNat).length (c0 - t102.toNat)] rfl (by (try simp only [List.map_toArray, List.map_cons, List.map_nil]); first | done | (rw [show ((l0.take ((ji12) : Int).toNat).drop (t102 : Int).toNat).length = ((ji12).toNat - t102.toNat) from (by rw [List.length_drop, List.length_take]; have h_ : ((ji12) : Int) ≤ (l0.length : Int) := of_decide_eq_true (by first | (with_reducible assumption) | assumption); omega)] <;> rfl) | (simp only [hji12]; rfl) | rfl | (simp only [List.length_drop, List.length_take]; rfl)) ?_; (with_reducible refine (bytes_Clone.calls _ _ ((l0.take ((ji12) : Int).toNat).drop (t102 : Int).toNat) t105 _ ?side1 ?side2 A11.out).mono ?_); (case side1 => repeat (first | exact (Kd.C_below HR104.out HB.out) | (with_reducible refine Kd.C_alloc ?_ _) | (with_reducible refine Kd.C_drewN ?_ _) | (with_reducible refine Kd.C_drew ?_))); (case side2 => exact HC104.out); rintro e w29 ⟨v106, rfl, ho0, hb⟩; refine ⟨_, rfl, ?_⟩; have n0_ := Aside0.mk (Kd.R_lower ho0 (below_size (by repeat (first | (with_reducible first | exact HB.out | apply below_alloc | apply pw_below_drewN | apply below_drew1) | exact HB.out)))); have n1_ := Aside0.mk (below_step (by repeat (first | (with_reducible first | exact HB.out | apply below_alloc | apply pw_below_drewN | apply below_drew1) | exact HB.out)) hb); clear HB; have HO107 := n0_; have HB := n1_; clear n0_ n1_; (try clear hb); (try clear hb2); (try clear hk); (try clear hi); (try clear ho0)))
                      have n0_ := Aside0.mk (Kd.R_drew HO107.out)
                      have n1_ := Aside0.mk (below_drew1 HB.out)
                      clear HO107
                      clear HB
                      have HO107 := n0_
                      have HB := n1_
                      clear n0_ n1_
                      obtain ⟨i031, hi031, _, hsz31, _⟩ := info_parts info5
                      obtain ⟨A31, hcut31, hA31, hC31⟩ := print_mid_of (P := Try.prog) (Value.int .u8) 0 36 5 .i64 .i64 Try.underlying36 hi031 hsz31 A0 c0 l0 (ji12) (wrap64 ((ji12) + 4)) (of_decide_eq_true (by first | (with_reducible assumption) | assumption)) (by first | omega | exact of_decide_eq_true (by first | (with_reducible assumption) | assumption)) (of_decide_eq_true (by first | (with_reducible assumption) | assumption)) HC0.out
                      have HR108 := Aside0.mk (Kd.C_of_reads (h1 := fun _ => rfl) (hA31 _ (Kd.reads_of_C HR0.out)))
                      have HC108 := Aside0.mk hC31
                      clear hA31 hC31 hi031 hsz31
                      obtain ⟨Ao32, co32, eo32⟩ := Kd.R_slice HO107.out
                      (first | subst eo32 | (injection eo32 with f1_ f2_ f3_; have f4_ := f1_.symm; have f5_ := f3_.symm; clear f1_ f2_ f3_; subst f4_; subst f5_))
                      refine start_ (n := 9) (S := fun w' => True) (ds := []) #[false, false, false, false, false, false, false, false, false] (by kernel_rfl) rfl rfl trivial (fun hHeld => ?_); refine with_tabW frame_Get.tab10 frame_Get.bits10 (fun HT_ HW_ => ?_)
                      generalize w29.drew = w30 at HO107 HB HR108 hHeld ⊢
                      refine pure_ (i := 0) (N := some 37) (v := ?_) (a' := ?_) #[true, false, false, false, false, false, false, false, false] rfl rfl (any_of HT_.out (by kernel_rfl)) (fun _ _ _ h => h) (Or.inl ⟨by rfl, ?_⟩) ?_ ?_
                      rotate_left
                      · intro w'
                        go_simp
                        with_reducible rfl
                      rotate_left
                      · simp only [Act.put, List.setIfInBounds_toArray, List.set_cons_zero, List.set_cons_succ, i64_w, i32_w]
                        rfl
                      refine pure_ (i := 1) (N := some 38) (v := ?_) (a' := ?_) #[true, true, false, false, false, false, false, false, false] rfl rfl (any_of HT_.out (by kernel_rfl)) (fun _ _ _ h => h) (Or.inl ⟨by rfl, ?_⟩) ?_ ?_
                      rotate_left
                      · intro w'
                        go_simp
                        with_reducible rfl
                      rotate_left
                      · simp only [Act.put, List.setIfInBounds_toArray, List.set_cons_zero, List.set_cons_succ, i64_w, i32_w]
                        rfl
                      refine pure_ (i := 2) (N := some 39) (v := ?_) (a' := ?_) #[true, true, true, false, false, false, false, false, false] rfl rfl (any_of HT_.out (by kernel_rfl)) (fun _ _ _ h => h) (Or.inl ⟨by rfl, ?_⟩) ?_ ?_
                      rotate_left
                      · intro w'
                        go_simp
                        with_reducible rfl
                      rotate_left
                      · simp only [Act.put, List.setIfInBounds_toArray, List.set_cons_zero, List.set_cons_succ, i64_w, i32_w]
                        rfl
                      refine pure_ (i := 3) (N := some 40) (v := ?_) (a' := ?_) #[true, true, true, true, false, false, false, false, false] rfl rfl (any_of HT_.out (by kernel_rfl)) (fun _ _ _ h => h) (Or.inl ⟨by rfl, ?_⟩) ?_ ?_
                      rotate_left
                      · intro w'
                        go_simp
                        with_reducible rfl
                      rotate_left
                      · simp only [Act.put, List.setIfInBounds_toArray, List.set_cons_zero, List.set_cons_succ, i64_w, i32_w]
                        rfl
                      refine pure_ (i := 4) (N := some 41) (v := ?_) (a' := ?_) #[true, true, true, true, true, false, false, false, false] rfl rfl (any_of HT_.out (by kernel_rfl)) (fun _ _ _ h => h) (Or.inl ⟨by rfl, ?_⟩) ?_ ?_
                      rotate_left
                      · intro w'
                        go_simp
                        with_reducible rfl
                      rotate_left
                      · simp only [Act.put, List.setIfInBounds_toArray, List.set_cons_zero, List.set_cons_succ, i64_w, i32_w]
                        rfl
                      refine pure_ (i := 5) (N := some 42) (v := ?_) (a' := ?_) #[true, true, true, true, true, true, false, false, false] rfl rfl (any_of HT_.out (by kernel_rfl)) (fun _ _ _ h => h) (Or.inl ⟨by rfl, ?_⟩) ?_ ?_
                      rotate_left
                      · intro w'
                        go_simp
                        with_reducible rfl
                      rotate_left
                      · simp only [Act.put, List.setIfInBounds_toArray, List.set_cons_zero, List.set_cons_succ, i64_w, i32_w]
                        rfl
                      refine one_ (i := 6) (N := some 43) #[true, true, true, true, true, true, true, false, false] rfl rfl (one_of HT_.out (by kernel_rfl)) (by decide) (fun K hK => ?_)
                      refine goes_ Try.func74 (by kernel_rfl) rfl #[.slice Ao32 t105.length co32] (by rfl) rfl rfl (by (try simp only [List.map_toArray, List.map_cons, List.map_nil]); first | done | rfl | (simp only [List.length_drop, List.length_take]; rfl)) ?_
                      with_reducible refine (frame_sum.calls k _ _ t105 t109 _ ?side1 ?side2 A16.out).mono ?_
                      (case side1 => repeat (first | exact (Kd.R_reads' HO107.out).2.2 | (with_reducible refine Kd.C_alloc ?_ _) | (with_reducible refine Kd.C_drewN ?_ _) | (with_reducible refine Kd.C_drew ?_)))
                      (case side2 => exact (Kd.R_reads' HO107.out).2.1)
                      rintro e w33 ⟨v110, rfl, ho0, hb⟩
                      refine ⟨_, rfl, ?_⟩
                      have n0_ := Aside0.mk (Kd.R_elder' (by (with_reducible repeat (first | apply Kd.R_alloc | apply Kd.R_drewN | apply Kd.R_drew)); exact HO107.out) (Kd.R_base ho0) hb)
                      have n1_ := Aside0.mk (Kd.R_lower (Kd.R_new' ho0 (Kd.R_lt (by (with_reducible repeat (first | apply Kd.R_alloc | apply Kd.R_drewN | apply Kd.R_drew)); exact HO107.out))) (below_size (by repeat (first | (with_reducible first | exact HB.out | apply below_alloc | apply pw_below_drewN | apply below_drew1) | exact HB.out))))
                      have n2_ := Aside0.mk (below_step (by repeat (first | (with_reducible first | exact HB.out | apply below_alloc | apply pw_below_drewN | apply below_drew1) | exact HB.out)) hb)
                      clear HO107
                      clear HB
                      have HO107 := n0_
                      have HO111 := n1_
                      have HB := n2_
                      clear n0_ n1_ n2_
                      (try clear hb)
                      (try clear hb2)
                      (try clear hk)
                      (try clear hi)
                      (try clear ho0)
                      obtain ⟨Ao34, co34, eo34⟩ := Kd.R_slice HO111.out
                      (first | subst eo34 | (injection eo34 with f1_ f2_ f3_; have f4_ := f1_.symm; have f5_ := f3_.symm; clear f1_ f2_ f3_; subst f4_; subst f5_))
                      refine hK.out _ _ trivial (fun hHeld => ?_)
                      clear hK K
                      refine norm_ (a' := ?_) ?_ ?_
                      rotate_left
                      · show Act.put _ (some 43) _ = _
                        simp only [Act.put, List.setIfInBounds_toArray, List.set_cons_zero, List.set_cons_succ, i64_w, i32_w]
                        rfl
                      refine one_ (i := 7) (N := some 44) #[true, true, true, true, true, true, true, true, false] rfl rfl (one_of HT_.out (by kernel_rfl)) (by decide) (fun K hK => ?_)
                      refine goes_ Try.func51 (by kernel_rfl) rfl #[.slice A31 ((l0.take ((wrap64 ((ji12) + 4)) : Int).toNat).drop ((ji12) : Int).toNat).length (c0 - (ji12).toNat), .slice Ao34 t109.length co34] (by rfl) rfl rfl (by (try simp only [List.map_toArray, List.map_cons, List.map_nil]); first | done | (rw [show ((l0.take ((wrap64 ((ji12) + 4)) : Int).toNat).drop ((ji12) : Int).toNat).length = ((wrap64 ((ji12) + 4)).toNat - (ji12).toNat) from (by rw [List.length_drop, List.length_take]; have h_ : ((wrap64 ((ji12) + 4)) : Int) ≤ (l0.length : Int) := of_decide_eq_true (by first | (with_reducible assumption) | assumption); omega)] <;> rfl) | (simp only [hji12]; rfl) | rfl | (simp only [List.length_drop, List.length_take]; rfl)) ?_
                      with_reducible refine (bytes_Equal.calls _ _ ((l0.take ((wrap64 ((ji12) + 4)) : Int).toNat).drop ((ji12) : Int).toNat) _ _ t109 false _ ?side1 ?side2 ?side3 ?side4 A17.out).mono ?_
                      (case side1 => repeat (first | exact (Kd.C_below HR108.out HB.out) | (with_reducible refine Kd.C_alloc ?_ _) | (with_reducible refine Kd.C_drewN ?_ _) | (with_reducible refine Kd.C_drew ?_)))
                      (case side2 => exact HC108.out)
                      (case side3 => repeat (first | exact (Kd.R_reads' HO111.out).2.2 | (with_reducible refine Kd.C_alloc ?_ _) | (with_reducible refine Kd.C_drewN ?_ _) | (with_reducible refine Kd.C_drew ?_)))
                      (case side4 => exact (Kd.R_reads' HO111.out).2.1)
                      rintro e w' ⟨rfl, ⟨nd, rfl⟩⟩
                      refine ⟨_, rfl, ?_⟩
                      refine hK.out _ _ trivial (fun hHeld => ?_)
                      clear hK K
                      refine norm_ (a' := ?_) ?_ ?_
                      rotate_left
                      · show Act.put _ (some 44) _ = _
                        simp only [Act.put, List.setIfInBounds_toArray, List.set_cons_zero, List.set_cons_succ, i64_w, i32_w]
                        rfl
                      refine pure_ (i := 8) (N := some 45) (v := ?_) (a' := ?_) #[true, true, true, true, true, true, true, true, true] rfl rfl (any_of HT_.out (by kernel_rfl)) (fun _ _ _ h => h) (Or.inl ⟨by rfl, ?_⟩) ?_ ?_
                      rotate_left
                      · intro w'
                        go_simp
                        with_reducible rfl
                      rotate_left
                      · simp only [Act.put, List.setIfInBounds_toArray, List.set_cons_zero, List.set_cons_succ, i64_w, i32_w]
                        rfl
                      refine done_ (done_of HT_.out (by kernel_rfl)) ?_
                      try go_wp2
                      go_ret3
                      exact ⟨_, by first | rfl | (simp [errW_none, errW_some] <;> rfl) | (simp only [← hji12]; first | rfl | (simp [errW_none, errW_some] <;> rfl)) | (simp [*, errW_none, errW_some] <;> rfl), by first | exact Kd.R_nil _ _ _ _ _ | exact Kd.N_nil _ _ _ _ _ | exact Kd.V_nil _ _ _ _ _ | exact Kd.Q_nil _ _ _ _ _ | exact Kd.S_nil _ _ _ _ _, by repeat (first | (with_reducible first | exact HB.out | apply below_alloc | apply pw_below_drewN | apply below_drew1) | exact HB.out)⟩
                  · rw [if_neg c15] at H
                    exact absurd H (by simp)
                · rw [if_neg c14] at H
                  exact absurd H (by simp)
              · rw [if_neg c13] at H
                exact absurd H (by simp)
            · rw [if_neg c10] at H
              exact absurd H (by simp)
          · rw [if_neg c9] at H
            exact absurd H (by simp)
        · rw [if_neg c8] at H
          exact absurd H (by simp)
  · rw [if_neg c3] at H
    have c3b0 : (t103 == 0) = false := beq_eq_false_iff_ne.mpr c3
    have c3b1 : (t103 != 0) = true := bne_iff_ne.mpr c3
    simp only [Option.some.injEq, Prod.mk.injEq] at H
    obtain ⟨rfl, rfl, rfl⟩ := H
    go_enter Try.func78, Try.ntmps78
    go_wp2_with (first | ((with_reducible refine gate_callee (f := 80) rfl ?_); refine goesL_ (some 12) rfl rfl Try.func80 (by kernel_rfl) rfl #[.slice A0 l0.length c0] rfl (by (try simp only [List.map_toArray, List.map_cons, List.map_nil]); first | done | rfl | (simp only [List.length_drop, List.length_take]; rfl)) ?_; (with_reducible refine (num_Get.calls _ _ l0 t101 t102 t103 _ ?side1 ?side2 A2.out).mono ?_); (case side1 => repeat (first | exact HR0.out | (with_reducible refine Kd.C_alloc ?_ _) | (with_reducible refine Kd.C_drewN ?_ _) | (with_reducible refine Kd.C_drew ?_))); (case side2 => exact HC0.out); rintro e w35 ⟨rfl, hb⟩; refine ⟨_, rfl, ?_⟩; have n0_ := Aside0.mk (below_step (by repeat (first | (with_reducible first | exact HB.out | apply below_alloc | apply pw_below_drewN | apply below_drew1) | exact HB.out)) hb); clear HB; have HB := n0_; clear n0_; (try clear hb); (try clear hb2); (try clear hk); (try clear hi)))
    go_ret3
    exact ⟨_, by first | rfl | (simp [errW_none, errW_some] <;> rfl) | (simp [*, errW_none, errW_some] <;> rfl), by first | exact Kd.R_nil _ _ _ _ _ | exact Kd.N_nil _ _ _ _ _ | exact Kd.V_nil _ _ _ _ _ | exact Kd.Q_nil _ _ _ _ _ | exact Kd.S_nil _ _ _ _ _, by repeat (first | (with_reducible first | exact HB.out | apply below_alloc | apply pw_below_drewN | apply below_drew1) | exact HB.out)⟩

def frame_Scan.l0 : Nat → List Int → List (List Int) → Int → Option ((List (List Int)) × Int)
  | 0, _, _, _ => none
  | k + 1, x0, x4, x5 => if 0 ≤ x5 then (if x5 ≤ (x0.length : Int) then ((frame_Get.f k (x0.drop (x5 : Int).toNat)).bind fun bt114 => (if bt114.2.2 = 0 then (if x4.length < 5864062014805 then (frame_Scan.l0 k x0 (x4 ++ [bt114.1]) (wrap64 (x5 + bt114.2.1))) else (none)) else (some (x4, x5)))) else (none)) else (none)
def frame_Scan.f (k : Nat) (l0 : List Int) : Option ((List (List Int)) × Int) := frame_Scan.l0 k l0 ([] : List (List Int)) 0
set_option maxHeartbeats 8000000 in
set_option maxRecDepth 100000 in
theorem frame_Scan.calls (k : Nat) (A0 : Option Addr) (c0 : Nat) (l0 : List Int) (r1 : List (List Int)) (r2 : Int) (w : World) (hr0 : Kd.C (Kd.int .u8) w A0 l0.length l0) (hc0 : l0.length ≤ c0) (h : frame_Scan.f k l0 = some (r1, r2)) :
    Calls Try.prog 46 #[.slice A0 l0.length c0] w fun e w' => ∃ v0_ : Value, e = .returned (.tuple #[v0_, .int .i64 r2]) ∧ Kd.S (Kd.slice 5 (Kd.int .u8)) 36 w' w.heap.size (fun _ => True) v0_ r1 ∧ Below w.heap.size w w' := by
  have HR0 := Aside0.mk hr0
  have HC0 := Aside0.mk hc0
  clear hr0 hc0
  have HB := Aside0.mk (Below.refl w.heap.size w)
  have H : (frame_Scan.l0 k l0 ([] : List (List Int)) 0) = some (r1, r2) := h
  clear h
  have H' := Aside0.mk H
  clear H
  go_enter Try.func46, Try.ntmps46
  go_wp2
  go_loopg [4, 5] k (fun kq v4 v5 w' => ∃ (x4_1 : List (List Int)) (x5_1 : Int), v5 = .int .i64 x5_1 ∧ Aside0 (frame_Scan.l0 kq l0 x4_1 x5_1 = some (r1, r2)) ∧ Aside0 (kq ≤ k) ∧ Aside0 (Kd.S (Kd.slice 5 (Kd.int .u8)) 36 w' w.heap.size (fun _ => True) v4 x4_1) ∧ Aside0 (Below w.heap.size w w'))
  case atStart => exact ⟨(([] : List (List Int))), (0), (by first | rfl | (simp; done) | (simp [*]; done)), H', ⟨Nat.le_refl _⟩, ⟨by first | exact Kd.S_nil _ _ _ _ _ | exact Kd.N_nil _ _ _ _ _ | exact Kd.V_nil _ _ _ _ _ | exact Kd.Q_nil _ _ _ _ _ | exact Kd.R_nil _ _ _ _ _⟩, ⟨by repeat (first | (with_reducible first | exact HB.out | apply below_alloc | apply pw_below_drewN | apply below_drew1) | exact HB.out)⟩⟩
  case round =>
    clear H'
    obtain ⟨x4_1, x5_1, rfl, HA, HK1, HO_4, HB⟩ := hrel
    cases gk with
    | zero => exact absurd HA.out (by simp [frame_Scan.l0])
    | succ k1 =>
      have H := HA.out
      clear HA
      simp only [frame_Scan.l0] at H
      by_cases c2 : 0 ≤ x5_1
      · rw [if_pos c2] at H
        have c2b0 := eq_true c2
        have c2b1 : decide (0 ≤ x5_1) = true := decide_eq_true c2
        clear c2
        by_cases c3 : x5_1 ≤ (l0.length : Int)
        · rw [if_pos c3] at H
          have c3b0 := eq_true c3
          have c3b1 : decide (x5_1 ≤ (l0.length : Int)) = true := decide_eq_true c3
          clear c3
          replace H := Option.bind_eq_some_iff.mp H
          obtain ⟨⟨t114, t115, t116⟩, A40, H⟩ := H
          replace H : (if t116 = 0 then (if x4_1.length < 5864062014805 then (frame_Scan.l0 k1 l0 (x4_1 ++ [t114]) (wrap64 (x5_1 + t115))) else (none)) else (some (x4_1, x5_1))) = some (r1, r2) := H
          have A4 := Aside0.mk A40
          clear A40
          by_cases c5 : t116 = 0
          · rw [if_pos c5] at H
            have c5b0 : (t116 == 0) = true := beq_iff_eq.mpr c5
            have c5b1 : (t116 != 0) = false := bne_eq_false_iff_eq.mpr c5
            clear c5
            by_cases c6 : x4_1.length < 5864062014805
            · rw [if_pos c6] at H
              have LMc6 := Aside0.mk c6
              clear c6
              obtain ⟨y119, hy119⟩ : ∃ y_ : List (List Int), y_ = (x4_1 ++ [t114]) := ⟨_, rfl⟩
              replace H : (frame_Scan.l0 k1 l0 y119 (wrap64 (x5_1 + t115))) = some (r1, r2) := by first | (rw [hy119]; with_reducible exact H) | (have H2_ := (Option.bind_some _ _).symm.trans H; rw [hy119]; with_reducible exact H2_) | (have H2_ := (Option.bind_some _ _).symm.trans H; with_reducible exact H2_) | with_reducible exact H | (rw [hy119]; exact H) | exact H
              have Ny119 := Aside0.mk hy119
              clear hy119
              have H' := Aside0.mk H
              clear H
              obtain ⟨i07, hi07, _, hsz7, _⟩ := info_parts info5
              obtain ⟨A7, hcut7, hA7, hC7⟩ := print_drop_of (P := Try.prog) (Value.int .u8) 0 36 5 .i64 Try.underlying36 hi07 hsz7 A0 c0 l0 x5_1 (of_decide_eq_true (by first | (with_reducible assumption) | assumption)) (of_decide_eq_true (by first | (with_reducible assumption) | assumption)) HC0.out
              have HR113 := Aside0.mk (Kd.C_of_reads (h1 := fun _ => rfl) (hA7 _ (Kd.reads_of_C HR0.out)))
              have HC113 := Aside0.mk hC7
              clear hA7 hC7 hi07 hsz7
              go_wp2_with (first | ((with_reducible refine gate_callee (f := 78) rfl ?_); refine goesL_ (some 13) rfl rfl Try.func78 (by kernel_rfl) rfl #[.slice A7 (l0.drop (x5_1 : Int).toNat).length (c0 - x5_1.toNat)] rfl (by (try simp only [List.map_toArray, List.map_cons, List.map_nil]); first | done | (rw [show (l0.drop (x5_1 : Int).toNat).length = (l0.length - x5_1.toNat) from List.length_drop] <;> rfl) | rfl | (simp only [List.length_drop, List.length_take]; rfl)) ?_; (with_reducible refine (frame_Get.calls k1 _ _ (l0.drop (x5_1 : Int).toNat) t114 t115 t116 _ ?side1 ?side2 A4.out).mono ?_); (case side1 => repeat (first | exact (Kd.C_below HR113.out HB.out) | (with_reducible refine Kd.C_alloc ?_ _) | (with_reducible refine Kd.C_drewN ?_ _) | (with_reducible refine Kd.C_drew ?_))); (case side2 => exact HC113.out); rintro e w8 ⟨v117, rfl, ho0, hb⟩; refine ⟨_, rfl, ?_⟩; have n0_ := Aside0.mk (Kd.S_elder' (by (with_reducible repeat (first | apply Kd.S_alloc | apply Kd.S_drewN | apply Kd.S_drew)); exact HO_4.out) (Kd.R_base ho0) hb); have n1_ := Aside0.mk (Kd.R_lower ho0 (below_size (by repeat (first | (with_reducible first | exact HB.out | apply below_alloc | apply pw_below_drewN | apply below_drew1) | exact HB.out)))); have n2_ := Aside0.mk (below_step (by repeat (first | (with_reducible first | exact HB.out | apply below_alloc | apply pw_below_drewN | apply below_drew1) | exact HB.out)) hb); clear HO_4; clear HB; have HO_4 := n0_; have HO118 := n1_; have HB := n2_; clear n0_ n1_ n2_; (try clear hb); (try clear hb2); (try clear hk); (try clear hi); (try clear ho0); obtain ⟨Ao10, co10, eo10⟩ := Kd.R_slice HO118.out; subst eo10) | ((with_reducible refine gate_builtin (b := .append) (xs := #[.tmp 21, .tmp 23]) rfl ?_); at_builtin; refine Kd.S_append (Kd.slice 5 (Kd.int .u8)) (w0 := w) w.heap.size rfl (.tmp 21) (.tmp 23) 75 36 (.slice none 0 0) 24 rfl Try.underlying75 info36 rfl (by decide) (by omega) u4 x4_1 t114 [.slice Ao10 t114.length co10] (fun _ => True) (fun k_ => some k_ = (.slice Ao10 t114.length co10 : Value).ownBlock) rfl rfl ?aP (fun k_ hk_ => ((Kd.R_mono (ok' := fun k_ => ((fun _ => True)) k_ ∧ some k_ ≠ (u4 : Value).ownBlock) (Kd.R_apart' (HO118.out) (Kd.S_typed HO_4.out) (by decide)) (fun k_ hk => ⟨trivial, hk.2⟩))).1 k_ hk_.symm) ?aF ?aO ?aB ?aS ?aL ?_; (case aP => exact Kd.M_row (Kd.R_mono (Kd.R_tight rfl (Kd.R_mono (ok' := fun k_ => ((fun _ => True)) k_ ∧ some k_ ≠ (u4 : Value).ownBlock) (Kd.R_apart' (HO118.out) (Kd.S_typed HO_4.out) (by decide)) (fun k_ hk => ⟨trivial, hk.2⟩))) (fun _ h_ => h_))); (case aB => exact (by repeat (first | (with_reducible first | exact HB.out | apply below_alloc | apply pw_below_drewN | apply below_drew1) | exact HB.out))); (case aF => exact (fun _ _ => trivial)); (case aO => exact (by (with_reducible repeat (first | apply Kd.S_alloc | apply Kd.S_drewN | apply Kd.S_drew)); exact Kd.S_mono HO_4.out (fun k_ hk => ⟨trivial, fun e_ => hk.2 e_⟩))); (case aS => exact (below_size (by repeat (first | (with_reducible first | exact HB.out | apply below_alloc | apply pw_below_drewN | apply below_drew1) | exact HB.out)))); (case aL => have := LMc6.out; omega); intro v120 w9 ho hb hg hat; rw [← Ny119.out] at ho; have n0_ := Aside0.mk (hb); have n1_ := Aside0.mk (ho); clear HB; clear HO_4; clear HO118; have HB := n0_; have HO121 := n1_; clear n0_ n1_; clear ho hb hg hat))
              go_roundg k1
              case measure => have := HK1.out; omega
              case rel => exact ⟨(y119), (wrap64 (x5_1 + t115)), (by first | rfl | (simp; done) | (simp [*]; done)), H', ⟨by have := HK1.out; omega⟩, ⟨by (with_reducible repeat (first | apply Kd.S_alloc | apply Kd.S_drewN | apply Kd.S_drew)); exact HO121.out⟩, ⟨by repeat (first | (with_reducible first | exact HB.out | apply below_alloc | apply pw_below_drewN | apply below_drew1) | exact HB.out)⟩⟩
            · rw [if_neg c6] at H
              exact absurd H (by simp)
          · rw [if_neg c5] at H
            have c5b0 : (t116 == 0) = false := beq_eq_false_iff_ne.mpr c5
            have c5b1 : (t116 != 0) = true := bne_iff_ne.mpr c5
            simp only [Option.some.injEq, Prod.mk.injEq] at H
            obtain ⟨rfl, rfl⟩ := H
            obtain ⟨i011, hi011, _, hsz11, _⟩ := info_parts info5
            obtain ⟨A11, hcut11, hA11, hC11⟩ := print_drop_of (P := Try.prog) (Value.int .u8) 0 36 5 .i64 Try.underlying36 hi011 hsz11 A0 c0 l0 x5_1 (of_decide_eq_true (by first | (with_reducible assumption) | assumption)) (of_decide_eq_true (by first | (with_reducible assumption) | assumption)) HC0.out
            have HR113 := Aside0.mk (Kd.C_of_reads (h1 := fun _ => rfl) (hA11 _ (Kd.reads_of_C HR0.out)))
            have HC113 := Aside0.mk hC11
            clear hA11 hC11 hi011 hsz11
            go_wp2_with (first | ((with_reducible refine gate_callee (f := 78) rfl ?_); refine goesL_ (some 13) rfl rfl Try.func78 (by kernel_rfl) rfl #[.slice A11 (l0.drop (x5_1 : Int).toNat).length (c0 - x5_1.toNat)] rfl (by (try simp only [List.map_toArray, List.map_cons, List.map_nil]); first | done | (rw [show (l0.drop (x5_1 : Int).toNat).length = (l0.length - x5_1.toNat) from List.length_drop] <;> rfl) | rfl | (simp only [List.length_drop, List.length_take]; rfl)) ?_; (with_reducible refine (frame_Get.calls k1 _ _ (l0.drop (x5_1 : Int).toNat) t114 t115 t116 _ ?side1 ?side2 A4.out).mono ?_); (case side1 => repeat (first | exact (Kd.C_below HR113.out HB.out) | (with_reducible refine Kd.C_alloc ?_ _) | (with_reducible refine Kd.C_drewN ?_ _) | (with_reducible refine Kd.C_drew ?_))); (case side2 => exact HC113.out); rintro e w12 ⟨v117, rfl, ho0, hb⟩; refine ⟨_, rfl, ?_⟩; have n0_ := Aside0.mk (Kd.S_elder' (by (with_reducible repeat (first | apply Kd.S_alloc | apply Kd.S_drewN | apply Kd.S_drew)); exact HO_4.out) (Kd.R_base ho0) hb); have n1_ := Aside0.mk (Kd.R_lower ho0 (below_size (by repeat (first | (with_reducible first | exact HB.out | apply below_alloc | apply pw_below_drewN | apply below_drew1) | exact HB.out)))); have n2_ := Aside0.mk (below_step (by repeat (first | (with_reducible first | exact HB.out | apply below_alloc | apply pw_below_drewN | apply below_drew1) | exact HB.out)) hb); clear HO_4; clear HB; have HO_4 := n0_; have HO118 := n1_; have HB := n2_; clear n0_ n1_ n2_; (try clear hb); (try clear hb2); (try clear hk); (try clear hi); (try clear ho0)))
            go_ret2
            exact ⟨_, by first | rfl | (simp [errW_none, errW_some] <;> rfl) | (simp [*, errW_none, errW_some] <;> rfl), by (with_reducible repeat (first | apply Kd.S_alloc | apply Kd.S_drewN | apply Kd.S_drew)); exact Kd.S_mono HO_4.out (fun _ hk => trivial), by repeat (first | (with_reducible first | exact HB.out | apply below_alloc | apply pw_below_drewN | apply below_drew1) | exact HB.out)⟩
        · rw [if_neg c3] at H
          exact absurd H (by simp)
      · rw [if_neg c2] at H
        exact absurd H (by simp)

end Go.Proofs.Ytgebhidpkcjpmaa.PFg

namespace Go.Proofs.Ytgebhidpkcjpmaa.PFg
open Go.RowKit Go.Proofs.YtgebhidpkcjpmaaW.PrintWords Go.Proofs.YtgebhidpkcjpmaaW.PrintLast Go.Proofs.YtgebhidpkcjpmaaW.PrintMore Go.Proofs.Ytgebhidpkcjpmaa.K Go.Proofs.Ytgebhidpkcjpmaa.PDk Go.Proofs.Ytgebhidpkcjpmaa.PDm Go.Proofs.Ytgebhidpkcjpmaa.PEn Go.Proofs.Ytgebhidpkcjpmaa.PFl Go.Proofs.Ytgebhidpkcjpmaa.PIx Go.Proofs.Ytgebhidpkcjpmaa.PLg Go.Proofs.Ytgebhidpkcjpmaa.PMk Go.Proofs.Ytgebhidpkcjpmaa.PR13
attribute [local go_sem] max2_int min2_int max_two min_two max_three min_three max_four min_four   -- for this text's walks alone
set_option linter.unusedVariables false
set_option linter.unusedSimpArgs false

end Go.Proofs.Ytgebhidpkcjpmaa.PFg

namespace Go.Proofs.Ytgebhidpkcjpmaa.K
open Go.RowKit Go.Proofs.YtgebhidpkcjpmaaW.PrintWords Go.Proofs.YtgebhidpkcjpmaaW.PrintLast Go.Proofs.YtgebhidpkcjpmaaW.PrintMore Go.Proofs.Ytgebhidpkcjpmaa
attribute [local go_sem] max2_int min2_int max_two min_two max_three min_three max_four min_four
set_option linter.unusedVariables false
set_option linter.unusedSimpArgs false
open Go Go.Proofs.Ytgebhidpkcjpmaa.PDk
/-- The reader at block g: what isn't read of the bytes, whether they were bad, and the values of its states, counts and classes. What it reads lies in the world w1, ahead of it. -/
def Rd (w1 w : World) (g : Nat) (l : List Int) (bad : Bool) (vS vC vK : Value) : Prop :=
  ∃ A c, w.heap[g]? = some (.cells #[.slice A l.length c, .bool bad, vS, vC, vK] 94 (0, 0)) ∧ Kd.C (Kd.int .u8) w1 A l.length l ∧ l.length ≤ c ∧ byt l = true ∧ w1.heap.size ≤ g ∧ Below w1.heap.size w1 w
def Only (g : Nat) (w w' : World) : Prop := w.heap.size ≤ w'.heap.size ∧ ∀ k, k < w.heap.size → k ≠ g → w'.heap[k]? = w.heap[k]?
theorem Only.refl (g : Nat) (w : World) : Only g w w := ⟨Nat.le_refl _, fun _ _ _ => rfl⟩
theorem Only.trans {g : Nat} {a b c : World} (h : Only g a b) (k : Only g b c) : Only g a c := ⟨Nat.le_trans h.1 k.1, fun n hn hg => (k.2 n (Nat.lt_of_lt_of_le hn h.1) hg).trans (h.2 n hn hg)⟩
theorem Only.below {g : Nat} {w w' : World} (h : Below w.heap.size w w') : Only g w w' := ⟨h.size, fun k hk _ => h.block k hk⟩
theorem Only.set {w : World} {g i : Nat} (v : Value) : Only g w (w.setCell ⟨g, i, none⟩ v) := ⟨Nat.le_of_eq (by simp [World.setCell]), fun k _ hk => Below.heap_setCell w ⟨g, i, none⟩ v k hk⟩
/-- A number, up to a greatest one: the number, what is left, whether the bytes were bad. -/
def numR (l : List Int) (bad : Bool) (most : Int) : Int × List Int × Bool :=
  if (getG l).2.2 ≠ 0 ∨ most < (getG l).1 then (0, l, true) else ((getG l).1, l.drop (getG l).2.1.toNat, bad)
def oneR (l : List Int) (bad : Bool) : Int × List Int × Bool := match l with
  | [] => (0, [], true)
  | c :: r => (c, r, bad)
theorem getG_ok {l : List Int} (h : (getG l).2.2 = 0) : 1 ≤ (getG l).2.1 ∧ (getG l).2.1 ≤ (l.length : Int) := by
  unfold getG at h ⊢
  cases hs : scn l 10 0 with
  | none => rw [hs] at h; cases h
  | some s =>
    rw [hs] at h
    dsimp only at h ⊢
    by_cases hc : s = 10 ∨ (s = 9 ∧ 1 < rd l (9 : Int)) ∨ (0 < s ∧ rd l (s : Int) = 0)
    · rw [if_pos hc] at h; cases h
    · rw [if_neg hc]
      dsimp only
      rcases scn_ok l 10 0 s hs (Nat.zero_le _) with h1 | h1
      · exact absurd (.inl (by omega)) hc
      · omega
theorem byt_drop {l : List Int} (h : byt l = true) (i : Nat) : byt (l.drop i) = true := List.all_eq_true.2 fun x hx => List.all_eq_true.1 h x (List.mem_of_mem_drop hx)
set_option maxHeartbeats 4000000 in
set_option maxRecDepth 100000 in
theorem rnum_k {w1 w : World} {g : Nat} {l : List Int} {bad : Bool} {vS vC vK : Value} (h : Rd w1 w g l bad vS vC vK) (most : Int) :
    Calls Try.prog 50 #[.pointer (some ⟨g, 0, none⟩), .int .u64 most] w fun e w' => e = .returned (.int .u64 (numR l bad most).1) ∧ Rd w1 w' g (numR l bad most).2.1 (numR l bad most).2.2 vS vC vK ∧ Only g w w' := by
  obtain ⟨A, c, hg, hC, hc, hb, hsz, hB⟩ := h
  have HN := Aside0.mk (numGet_k A c l w (Kd.C_below hC hB) hc hb)
  have HG := Aside0.mk hg; have HC := Aside0.mk hC; have HLC := Aside0.mk hc; have HBY := Aside0.mk hb; have HSZ := Aside0.mk hsz; have HB := Aside0.mk hB
  have hlen : (l.length : Int) ≤ 9223372036854775807 := by have := hC.2.1; omega
  clear hg hC hc hb hsz hB
  have huR := Try.underlying92
  have e0 : w.cell? ⟨g, 0, none⟩ = some (.slice A l.length c) := (blk_cell HG.out 0).trans rfl
  have e1 : w.cell? ⟨g, 1, none⟩ = some (.bool bad) := (blk_cell HG.out 1).trans rfl
  by_cases hbad : (getG l).2.2 ≠ 0 ∨ most < (getG l).1
  · have HR := Aside0.mk (show numR l bad most = (0, l, true) by unfold numR; rw [if_pos hbad])
    generalize getG l = G at HN hbad
    obtain ⟨n, k, e⟩ := G
    dsimp only at HN hbad
    go_enter Try.func50, Try.ntmps50
    go_wp2_with (first | (go_at_call 80; (with_reducible refine (HN.out).mono ?_)))
    (first | rintro x w2 rfl hb2 | rintro x w2 ⟨rfl, hb2⟩)
    have HG2 := Aside0.mk ((hb2.block g (blk_lt HG.out)).trans HG.out)
    have HB2 := Aside0.mk (HB.out.trans (hb2.mono HB.out.size))
    have HO2 := Aside0.mk (Only.below (g := g) hb2)
    clear hb2 HN e0 e1 HG
    have f1 := blk_frozen HG2.out 1
    have e1 : w2.cell? ⟨g, 1, none⟩ = some (.bool bad) := (blk_cell HG2.out 1).trans rfl
    have hfin : ∀ W, W = w2.setCell ⟨g, 1, none⟩ (.bool true) → (Rd w1 W g l true vS vC vK ∧ Only g w W) := fun W hW => by
      subst hW
      exact ⟨⟨A, c, blk_put HG2.out 1 (.bool true) rfl, HC.out, HLC.out, HBY.out, HSZ.out, HB2.out.setCell (p := ⟨g, 1, none⟩) HSZ.out (.bool true)⟩, HO2.out.trans (Only.set _)⟩
    have HFIN := Aside0.mk hfin
    clear hfin
    by_cases he : e ≠ 0
    · have hd : (e == 0) = false := by simpa using he
      clear hbad
      go_wp2
      go_ret
      rw [HR.out]
      exact ⟨rfl, HFIN.out _ rfl⟩
    · obtain rfl : e = 0 := by simpa using he
      have hd : decide (most < n) = true := decide_eq_true (by rcases hbad with h | h; exact absurd rfl h; exact h)
      clear hbad he
      go_wp2
      go_ret
      rw [HR.out]
      exact ⟨rfl, HFIN.out _ rfl⟩
  · have hne : (getG l).2.2 = 0 := Classical.byContradiction fun h => hbad (.inl h)
    have hle : ¬ most < (getG l).1 := fun h => hbad (.inr h)
    obtain ⟨k1, k2⟩ := getG_ok hne
    have HR := Aside0.mk (show numR l bad most = ((getG l).1, l.drop (getG l).2.1.toNat, bad) by unfold numR; rw [if_neg hbad])
    clear hbad
    generalize getG l = G at HN hne hle HR k1 k2
    obtain ⟨n, k, e⟩ := G
    dsimp only at HN hne hle HR k1 k2
    subst hne
    obtain ⟨k, rfl⟩ := Int.eq_ofNat_of_zero_le (show 0 ≤ k by omega)
    rw [Int.toNat_natCast] at HR
    obtain ⟨A', D, hD, hcut, hCD, hDc⟩ := drop_came (P := Try.prog) 36 5 Try.underlying36 info5 HC.out HLC.out k (by omega)
    rw [← hD] at HR
    have HCD := Aside0.mk hCD; have HDC := Aside0.mk hDc; have HBD := Aside0.mk (show byt D = true by rw [hD]; exact byt_drop HBY.out k)
    have hd : decide (most < n) = false := decide_eq_false hle
    clear hCD hDc hD hle
    go_enter Try.func50, Try.ntmps50
    go_wp2_with (first | (go_at_call 80; (with_reducible refine (HN.out).mono ?_)))
    (first | rintro x w2 rfl hb2 | rintro x w2 ⟨rfl, hb2⟩)
    have HG2 := Aside0.mk ((hb2.block g (blk_lt HG.out)).trans HG.out)
    have HB2 := Aside0.mk (HB.out.trans (hb2.mono HB.out.size))
    have HO2 := Aside0.mk (Only.below (g := g) hb2)
    clear hb2 HN e0 e1 HG
    have f0 := blk_frozen HG2.out 0
    have e0 : w2.cell? ⟨g, 0, none⟩ = some (.slice A l.length c) := (blk_cell HG2.out 0).trans rfl
    have hfin : ∀ W, W = w2.setCell ⟨g, 0, none⟩ (.slice A' D.length (c - k)) → (Rd w1 W g D bad vS vC vK ∧ Only g w W) := fun W hW => by
      subst hW
      exact ⟨⟨A', c - k, blk_put HG2.out 0 (.slice A' D.length (c - k)) rfl, HCD.out, HDC.out, HBD.out, HSZ.out, HB2.out.setCell (p := ⟨g, 0, none⟩) HSZ.out (.slice A' D.length (c - k))⟩, HO2.out.trans (Only.set _)⟩
    have HFIN := Aside0.mk hfin
    clear hfin
    go_wp2
    go_ret
    rw [HR.out]
    exact ⟨rfl, HFIN.out _ rfl⟩
set_option maxHeartbeats 4000000 in
set_option maxRecDepth 100000 in
theorem rone_k {w1 w : World} {g : Nat} {l : List Int} {bad : Bool} {vS vC vK : Value} (h : Rd w1 w g l bad vS vC vK) :
    Calls Try.prog 79 #[.pointer (some ⟨g, 0, none⟩)] w fun e w' => e = .returned (.int .u8 (oneR l bad).1) ∧ Rd w1 w' g (oneR l bad).2.1 (oneR l bad).2.2 vS vC vK ∧ Only g w w' := by
  obtain ⟨A, c, hg, hC, hc, hb, hsz, hB⟩ := h
  have HG := Aside0.mk hg; have HC := Aside0.mk hC; have HLC := Aside0.mk hc; have HBY := Aside0.mk hb; have HSZ := Aside0.mk hsz; have HB := Aside0.mk hB
  have hlen : (l.length : Int) ≤ 9223372036854775807 := by have := hC.2.1; omega
  clear hg hC hc hb hsz hB
  have huR := Try.underlying92
  cases l with
  | nil =>
    have e0 : w.cell? ⟨g, 0, none⟩ = some (.slice A 0 c) := (blk_cell HG.out 0).trans rfl
    have e1 : w.cell? ⟨g, 1, none⟩ = some (.bool bad) := (blk_cell HG.out 1).trans rfl
    have f1 := blk_frozen HG.out 1
    have hfin : ∀ W, W = w.setCell ⟨g, 1, none⟩ (.bool true) → (Rd w1 W g [] true vS vC vK ∧ Only g w W) := fun W hW => by
      subst hW
      exact ⟨⟨A, c, blk_put HG.out 1 (.bool true) rfl, HC.out, HLC.out, HBY.out, HSZ.out, HB.out.setCell (p := ⟨g, 1, none⟩) HSZ.out (.bool true)⟩, Only.set _⟩
    have HFIN := Aside0.mk hfin
    clear hfin
    go_enter Try.func79, Try.ntmps79
    go_wp2
    go_ret
    exact ⟨rfl, HFIN.out _ rfl⟩
  | cons y r =>
    obtain ⟨A', D, hD, hcut, hCD, hDc⟩ := drop_came (P := Try.prog) 36 5 Try.underlying36 info5 HC.out HLC.out 1 (by simp)
    rw [List.drop_succ_cons, List.drop_zero] at hD
    subst hD
    rw [show ((1 : Nat) : Int) = 1 from rfl] at hcut
    obtain ⟨ad, ea, a0⟩ := Kd.at_int (Kd.C_below HC.out HB.out) 0 (by omega) (by simp)
    cases ea
    rw [show rd (y :: D) 0 = y from rfl, show ad.add (Int.toNat 0) = ad by (unfold Addr.add; simp)] at a0
    have HCD := Aside0.mk hCD; have HDC := Aside0.mk hDc; have HBD := Aside0.mk (show byt D = true from byt_drop HBY.out 1)
    clear hCD hDc
    have e0 : w.cell? ⟨g, 0, none⟩ = some (.slice (some ad) (y :: D).length c) := (blk_cell HG.out 0).trans rfl
    have f0 := blk_frozen HG.out 0
    have hl1 : ((((y :: D).length : Nat) : Int) == 0) = false := by rw [beq_eq_false_iff_ne, List.length_cons]; omega
    have hl2 : (0 : Int) < (((y :: D).length : Nat) : Int) := by simp
    have hfin : ∀ W, W = w.setCell ⟨g, 0, none⟩ (.slice A' D.length (c - 1)) → (Rd w1 W g D bad vS vC vK ∧ Only g w W) := fun W hW => by
      subst hW
      exact ⟨⟨A', c - 1, blk_put HG.out 0 (.slice A' D.length (c - 1)) rfl, HCD.out, HDC.out, HBD.out, HSZ.out, HB.out.setCell (p := ⟨g, 0, none⟩) HSZ.out (.slice A' D.length (c - 1))⟩, Only.set _⟩
    have HFIN := Aside0.mk hfin
    clear hfin
    generalize (y :: D).length = n at e0 hl1 hl2 hcut hlen HG HC HLC
    go_enter Try.func79, Try.ntmps79
    go_wp2
    go_ret
    exact ⟨rfl, HFIN.out _ rfl⟩
end Go.Proofs.Ytgebhidpkcjpmaa.K

namespace Go.Proofs.Ytgebhidpkcjpmaa.K
open Go.RowKit Go.Proofs.YtgebhidpkcjpmaaW.PrintWords Go.Proofs.YtgebhidpkcjpmaaW.PrintLast Go.Proofs.YtgebhidpkcjpmaaW.PrintMore Go.Proofs.Ytgebhidpkcjpmaa
attribute [local go_sem] max2_int min2_int max_two min_two max_three min_three max_four min_four
set_option linter.unusedVariables false
set_option linter.unusedSimpArgs false
open Go Go.Proofs.Ytgebhidpkcjpmaa.PDk
/-- A thing read so often, until the bytes are bad. -/
def itR {α : Type} (st : List Int → α → List Int × Bool × α) : Nat → List Int → Bool → α → List Int × Bool × α
  | 0, l, b, a => (l, b, a)
  | n + 1, l, true, a => itR st n l true a
  | n + 1, l, false, a => itR st n (st l a).1 (st l a).2.1 (st l a).2.2
def allR {α : Type} (st : List Int → α → List Int × Bool × α) (l : List Int) (b : Bool) (a : α) : List Int × Bool × α :=
  itR st (numR l b (l.length : Int)).1.toNat (numR l b (l.length : Int)).2.1 (numR l b (l.length : Int)).2.2 a
theorem numR_bounds (l : List Int) (b : Bool) (most : Int) (hm : 0 ≤ most) : 0 ≤ (numR l b most).1 ∧ (numR l b most).1 ≤ most := by
  unfold numR
  split
  · exact ⟨Int.le_refl _, hm⟩
  · rename_i h
    refine ⟨?_, by dsimp only; omega⟩
    dsimp only
    unfold getG
    split
    · exact Int.le_refl _
    · split
      · exact Int.le_refl _
      · exact Int.natCast_nonneg _
set_option maxHeartbeats 4000000 in
set_option maxRecDepth 100000 in
theorem rall_k {α : Type} (st : List Int → α → List Int × Bool × α) (X : Nat → World → Value → Value → Value → α → Prop) (gf : Nat) (first lb : Array Value) (eg : ∀ args w, (callFunc gf args).run Try.prog w = .ok (.enter gf args) w) {w1 : World} {g N : Nat}
    (hO : ∀ i W W' vS vC vK a, X i W vS vC vK a → Only g W W' → X i W' vS vC vK a) (hI : ∀ i W vS vC vK a, X i W vS vC vK a → X (i + 1) W vS vC vK a)
    (hst : ∀ i W l vS vC vK a, i < N → Rd w1 W g l false vS vC vK → X i W vS vC vK a → Calls Try.prog gf (first ++ lb) W fun e w' => e = .returned (.tuple #[]) ∧ ∃ vS' vC' vK', Rd w1 w' g (st l a).1 (st l a).2.1 vS' vC' vK' ∧ X (i + 1) w' vS' vC' vK' (st l a).2.2)
    {w : World} {l : List Int} {bad : Bool} {vS vC vK : Value} {a : α} (h : Rd w1 w g l bad vS vC vK) (hX : X 0 w vS vC vK a) (hl : l.length < 140737488355328) (hN : l.length ≤ N) :
    Calls Try.prog 47 #[.pointer (some ⟨g, 0, none⟩), .func (.func gf) first lb] w fun e w' => e = .returned (.tuple #[]) ∧ ∃ vS' vC' vK' i, Rd w1 w' g (allR st l bad a).1 (allR st l bad a).2.1 vS' vC' vK' ∧ X i w' vS' vC' vK' (allR st l bad a).2.2 ∧ i ≤ l.length := by
  have HNB := Aside0.mk (numR_bounds l bad (l.length : Int) (by omega))
  have HO := Aside0.mk hO; have HI := Aside0.mk hI; have HST := Aside0.mk hst; have HL := Aside0.mk hl; have HNN := Aside0.mk hN
  have H0 := h
  obtain ⟨A, c, hg, hC, hc, hb, hsz, hB⟩ := h
  have hlen : (l.length : Int) ≤ 9223372036854775807 := by have := hC.2.1; omega
  have hui : IntKind.u64.wrap (l.length : Int) = (l.length : Int) := by simp [IntKind.wrap, IntKind.bits, IntKind.signed]; omega
  have HR0 := Aside0.mk H0; have HX0 := Aside0.mk hX; have HG := Aside0.mk hg
  have huR := Try.underlying92
  have huT := Try.underlying94
  clear hO hI hst hl H0 hX hg hC hc hb hsz hB
  go_enter Try.func47, Try.ntmps47
  go_wp2
  refine start_ (n := 12) (S := fun w' => w'.cell? ⟨g, 0, none⟩ = some (.slice A l.length c)) (ds := [10]) #[false, false, false, false, false, false, false, false, false, false, false, false] (by kernel_rfl) rfl rfl (by exact (blk_cell (blk_drew HG.out) 0).trans rfl) (fun hHeld => ?_)
  have HR1 := Aside0.mk (show Rd w1 w.drew g l bad vS vC vK from by obtain ⟨A, c, h1, h2, h3, h4, h5, h6⟩ := HR0.out; exact ⟨A, c, blk_drew h1, h2, h3, h4, h5, below_drew h6⟩)
  have HX1 := Aside0.mk (HO.out 0 w w.drew vS vC vK a HX0.out ⟨Nat.le_refl _, fun _ _ _ => rfl⟩)
  clear HR0 HX0 HG
  generalize w.drew = w2 at HR1 HX1 hHeld ⊢
  (refine pure_ (i := 0) (N := some 4) (v := ?_) (a' := ?_) #[true, false, false, false, false, false, false, false, false, false, false, false] rfl rfl (by kernel_rfl) (fun _ _ _ h => h) (Or.inl ⟨by rfl, ?_⟩) ?_ ?_; rotate_left; (intro w'; go_simp; with_reducible rfl); rotate_left; (simp only [Act.put, List.setIfInBounds_toArray, List.set_cons_zero, List.set_cons_succ, i64_w, i32_w]; rfl)); (refine pure_ (i := 1) (N := some 5) (v := ?_) (a' := ?_) #[true, true, false, false, false, false, false, false, false, false, false, false] rfl rfl (by kernel_rfl) (fun _ _ _ h => h) (Or.inl ⟨by rfl, ?_⟩) ?_ ?_; rotate_left; (intro w'; go_simp; with_reducible rfl); rotate_left; (simp only [Act.put, List.setIfInBounds_toArray, List.set_cons_zero, List.set_cons_succ, i64_w, i32_w]; rfl)); (refine pure_ (i := 2) (N := some 6) (v := ?_) (a' := ?_) #[true, true, true, false, false, false, false, false, false, false, false, false] rfl rfl (by kernel_rfl) (fun _ _ _ h => h) (Or.inl ⟨by rfl, ?_⟩) ?_ ?_; rotate_left; (intro w'; go_simp; with_reducible rfl); rotate_left; (simp only [Act.put, List.setIfInBounds_toArray, List.set_cons_zero, List.set_cons_succ, i64_w, i32_w]; rfl)); (refine pure_ (i := 3) (N := some 7) (v := ?_) (a' := ?_) #[true, true, true, true, false, false, false, false, false, false, false, false] rfl rfl (by kernel_rfl) (fun _ _ _ h => h) (Or.inl ⟨by rfl, ?_⟩) ?_ ?_; rotate_left; (intro w'; go_simp; with_reducible rfl); rotate_left; (simp only [Act.put, List.setIfInBounds_toArray, List.set_cons_zero, List.set_cons_succ, i64_w, i32_w]; rfl)); (refine pure_ (i := 4) (N := some 8) (v := ?_) (a' := ?_) #[true, true, true, true, true, false, false, false, false, false, false, false] rfl rfl (by kernel_rfl) (fun _ _ _ h => h) (Or.inl ⟨by rfl, ?_⟩) ?_ ?_; rotate_left; (intro w'; go_simp; with_reducible rfl); rotate_left; (simp only [Act.put, List.setIfInBounds_toArray, List.set_cons_zero, List.set_cons_succ, i64_w, i32_w]; rfl)); (refine pure_ (i := 5) (N := some 9) (v := ?_) (a' := ?_) #[true, true, true, true, true, true, false, false, false, false, false, false] rfl rfl (by kernel_rfl) (fun _ _ _ h => h) (Or.inl ⟨by rfl, ?_⟩) ?_ ?_; rotate_left; (intro w'; go_simp; with_reducible rfl); rotate_left; (simp only [Act.put, List.setIfInBounds_toArray, List.set_cons_zero, List.set_cons_succ, i64_w, i32_w]; rfl)); (refine pure_ (i := 6) (N := some 10) (v := ?_) (a' := ?_) #[true, true, true, true, true, true, true, false, false, false, false, false] rfl rfl (by kernel_rfl) (fun _ _ _ h => h) (Or.inl ⟨by rfl, ?_⟩) ?_ ?_; rotate_left; (intro w'; go_simp; with_reducible rfl); rotate_left; (simp only [Act.put, List.setIfInBounds_toArray, List.set_cons_zero, List.set_cons_succ, i64_w, i32_w]; rfl))
  (refine take_ (i := 7) (N := some 11) (v := ?_) (a' := ?_) #[true, true, true, true, true, true, true, true, false, false, false, false] rfl rfl (by kernel_rfl) (fun _ _ _ h => h) (Or.inl ⟨by rfl, ?_⟩) hHeld ?_ ?_; rotate_left; (rintro w' s0; go_simp; with_reducible rfl); rotate_left; (simp only [Act.put, List.setIfInBounds_toArray, List.set_cons_zero, List.set_cons_succ, i64_w, i32_w]; rfl))
  (refine pure_ (i := 8) (N := some 12) (v := ?_) (a' := ?_) #[true, true, true, true, true, true, true, true, true, false, false, false] rfl rfl (by kernel_rfl) (fun _ _ _ h => h) (Or.inl ⟨by rfl, ?_⟩) ?_ ?_; rotate_left; (intro w'; go_simp; with_reducible rfl); rotate_left; (simp only [Act.put, List.setIfInBounds_toArray, List.set_cons_zero, List.set_cons_succ, i64_w, i32_w]; rfl)); (refine pure_ (i := 9) (N := some 13) (v := ?_) (a' := ?_) #[true, true, true, true, true, true, true, true, true, true, false, false] rfl rfl (by kernel_rfl) (fun _ _ _ h => h) (Or.inl ⟨by rfl, ?_⟩) ?_ ?_; rotate_left; (intro w'; go_simp; with_reducible rfl); rotate_left; (simp only [Act.put, List.setIfInBounds_toArray, List.set_cons_zero, List.set_cons_succ, i64_w, i32_w]; rfl)); (refine pure_ (i := 11) (N := some 15) (v := ?_) (a' := ?_) #[true, true, true, true, true, true, true, true, true, true, false, true] rfl rfl (by kernel_rfl) (fun _ _ _ h => h) (Or.inl ⟨by rfl, ?_⟩) ?_ ?_; rotate_left; (intro w'; go_simp; with_reducible rfl); rotate_left; (simp only [Act.put, List.setIfInBounds_toArray, List.set_cons_zero, List.set_cons_succ, i64_w, i32_w]; rfl))
  refine last_ (i := 10) (N := some 14) #[true, true, true, true, true, true, true, true, true, true, true, true] rfl rfl (by kernel_rfl) (by decide) (fun K hK => ?_)
  (refine goes_ Try.func50 (by kernel_rfl) rfl #[.pointer (some ⟨g, 0, none⟩), .int .u64 (l.length : Int)] (by rfl) rfl rfl (by first | rfl | (simp only [List.map_toArray, List.map_cons, List.map_nil]; rfl)) ?_; with_reducible refine (rnum_k HR1.out (l.length : Int)).mono ?_)
  rintro x w3 ⟨rfl, hR3, hO3⟩
  refine ⟨_, rfl, ?_⟩
  have HX3 := Aside0.mk (HO.out 0 w2 w3 vS vC vK a HX1.out hO3)
  have HR3 := Aside0.mk hR3
  refine hK.out _ _ ?_
  clear hR3 hO3 HR1 HX1
  (clear hK K; refine norm_ (a' := ?_) ?_ ?_; rotate_left; (show Act.put _ (some 14) _ = _; simp only [Act.put, List.setIfInBounds_toArray, List.set_cons_zero, List.set_cons_succ, i64_w, i32_w]; rfl))
  refine done_ (by kernel_rfl) ?_
  obtain ⟨n0, n1⟩ := HNB.out
  have hall : ∀ R, numR l bad (l.length : Int) = R → allR st l bad a = itR st R.1.toNat R.2.1 R.2.2 a := fun R hR => by unfold allR; rw [hR]
  obtain ⟨⟨n, l1, b1⟩, hR⟩ : ∃ R, numR l bad (l.length : Int) = R := ⟨_, rfl⟩
  have HALL := Aside0.mk (hall _ hR)
  rw [hR] at HR3 n0 n1 ⊢
  clear hall hR
  dsimp only at HR3 n0 n1 ⊢
  obtain ⟨n, rfl⟩ := Int.eq_ofNat_of_zero_le n0
  have HALL := Aside0.mk (show allR st l bad a = itR st n l1 b1 a from HALL.out)
  have HNL := Aside0.mk (show n ≤ l.length by omega)
  clear n0 n1 hHeld HNB
  (try simp only [Exit.then])
  go_wp2
  go_loopg [15] n (fun gg v15 wr => ∃ (i : Nat) (l2 : List Int) (b2 : Bool) (vS2 vC2 vK2 : Value) (a2 : α), v15 = .int .u64 i ∧ Aside0 (i + gg = n) ∧ Aside0 (Rd w1 wr g l2 b2 vS2 vC2 vK2) ∧ Aside0 (X i wr vS2 vC2 vK2 a2) ∧ Aside0 (allR st l bad a = itR st gg l2 b2 a2))
  case atStart => exact ⟨0, l1, b1, vS, vC, vK, a, rfl, ⟨by omega⟩, HR3, HX3, HALL⟩
  case round =>
    clear HR3 HX3 HALL
    obtain ⟨i, l2, b2, vS2, vC2, vK2, a2, rfl, hi, hR, hX, hA⟩ := hrel
    cases gk with
    | zero =>
      obtain rfl : i = n := by have := hi.out; omega
      have hcb : decide ((i : Int) < (i : Int)) = false := decide_eq_false (by omega)
      go_wp2
      go_end0
      rw [hA.out]
      exact ⟨rfl, vS2, vC2, vK2, i, hR.out, hX.out, HNL.out⟩
    | succ gg =>
      have hlt : i < n := by have := hi.out; omega
      have hL := HL.out
      have hnl := HNL.out
      have hcb : decide ((i : Int) < (n : Int)) = true := decide_eq_true (by omega)
      have huw : IntKind.u64.wrap ((i : Int) + 1) = (i : Int) + 1 := by simp [IntKind.wrap, IntKind.bits, IntKind.signed]; omega
      have hR0 := hR.out
      obtain ⟨A2, c2, hg2, _⟩ := hR0
      have e1 : wr.cell? ⟨g, 1, none⟩ = some (.bool b2) := (blk_cell hg2 1).trans rfl
      clear hg2
      cases b2 with
      | true =>
        have HX := Aside0.mk (HI.out i wr vS2 vC2 vK2 a2 hX.out)
        go_wp2
        go_roundg gg
        case measure => omega
        case rel => exact ⟨i + 1, l2, true, vS2, vC2, vK2, a2, congrArg (Value.int .u64) (by omega), ⟨by have := hi.out; omega⟩, hR, HX, ⟨hA.out⟩⟩
      | false =>
        have HC := Aside0.mk (HST.out i wr l2 vS2 vC2 vK2 a2 (by have := HNN.out; omega) hR.out hX.out)
        go_wp2
        (with_reducible refine HC.out.mono ?_)
        rintro e w4 ⟨rfl, vS4, vC4, vK4, hR4, hX4⟩
        have HR4 := Aside0.mk hR4; have HX4 := Aside0.mk hX4
        clear hR4 hX4
        go_wp2
        go_roundg gg
        case measure => omega
        case rel => exact ⟨i + 1, _, _, vS4, vC4, vK4, _, congrArg (Value.int .u64) (by omega), ⟨by have := hi.out; omega⟩, HR4, HX4, ⟨hA.out⟩⟩
end Go.Proofs.Ytgebhidpkcjpmaa.K

