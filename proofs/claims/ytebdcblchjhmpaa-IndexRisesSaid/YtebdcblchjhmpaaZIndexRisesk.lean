/- IndexRises. (The texts that the proof is made of, one behind the other: part 11 of 12.) -/
import Derived.Test.YtebdcblchjhmpaaProg
import Derived.Below
import Derived.Deep.Draws
import Derived.Deep.AppendLies
import Derived.Maps.AppendAt
import Derived.OwnWalk
import Derived.Laws.BytesArg
import Derived.Laws.MakeOwn
import Derived.Laws.OwnMore
import Derived.Deep.OwnRows
import Derived.Tactics
import Derived.Lib.ConvBytes
import Derived.Laws.Slices
import Derived.WalkKit
import Derived.KernelRfl
import Derived.RowKit3
import Derived.Deep.LoopGhost
import Derived.Deep.QuietTactic
import Derived.BigQuiet
import Derived.WideLaws
import Derived.Deep.DeepCutAuto
import Derived.Deep.CutBlock
import Derived.Deep.RegionHeld3
import Derived.Laws.Rows
import Derived.Lib.AppendStr
import Derived.ArgAppend
import Derived.Laws.IdiomCopy
import Derived.OrdersHeld
import Derived.Laws.BitsLemmas
import Derived.RowKit
import Derived.Lib.OthersKept
import Derived.WalkSmall
import Derived.Deep.RegionLaw
import Derived.BigRegion
import Derived.Test.YtebdcblchjhmpaaZIndexRisesa
import Derived.Test.YtebdcblchjhmpaaZIndexRisesb
import Derived.Test.YtebdcblchjhmpaaZIndexRisesc
import Derived.Test.YtebdcblchjhmpaaZIndexRisesd
import Derived.Test.YtebdcblchjhmpaaZIndexRisese
import Derived.Test.YtebdcblchjhmpaaZIndexRisesf
import Derived.Test.YtebdcblchjhmpaaZIndexRisesg
import Derived.Test.YtebdcblchjhmpaaZIndexRisesh
import Derived.Test.YtebdcblchjhmpaaZIndexRisesi
import Derived.Test.YtebdcblchjhmpaaZIndexRisesj
namespace Go.Proofs.Ytebdcblchjhmpaa.PIndexRises
open Go.RowKit Go.Proofs.YtebdcblchjhmpaaW.PrintWords Go.Proofs.YtebdcblchjhmpaaW.PrintLast Go.Proofs.YtebdcblchjhmpaaW.PrintMore Go.Proofs.Ytebdcblchjhmpaa.K Go.Proofs.Ytebdcblchjhmpaa.PDk Go.Proofs.Ytebdcblchjhmpaa.PDm Go.Proofs.Ytebdcblchjhmpaa.PIx Go.Proofs.Ytebdcblchjhmpaa.PR14 Go.Proofs.Ytebdcblchjhmpaa.PSh15
attribute [local go_sem] max2_int min2_int max_two min_two max_three min_three max_four min_four   -- for this text's walks alone
set_option linter.unusedVariables false
set_option linter.unusedSimpArgs false

def manteletlaw15_IndexRises.j0 : Nat → List ByteArray → Int → Int → Bool → Bool → Option (Bool)
  | 0, _, _, _, _, _ => none
  | k + 1, x0, x1, x2, x7, x26 => if x26 = true then (some x7) else ((manteletref14_Build.f x0).bind fun bt103 => (if bt103.2 = 0 then (if (x0.length : Int) = 0 then (none) else (if 0 ≤ (Int.tmod (wrap64 (x1)) (x0.length : Int)) then (if (Int.tmod (wrap64 (x1)) (x0.length : Int)) < (x0.length : Int) then (if 0 ≤ (Int.tmod (wrap64 (x2)) (x0.length : Int)) then (if (Int.tmod (wrap64 (x2)) (x0.length : Int)) < (x0.length : Int) then ((index_Of.f k bt103.1 (rdOf ByteArray.empty x0 (Int.tmod (wrap64 (x1)) (x0.length : Int)))).bind fun bt109 => ((index_Of.f k bt103.1 (rdOf ByteArray.empty x0 (Int.tmod (wrap64 (x2)) (x0.length : Int)))).bind fun bt111 => ((index_Word.f k bt103.1 bt109.1).bind fun bt113 => (if x7 = true then (if bt109.2 = true then (if bt111.2 = true then (if bt113.2 = true then (if bt113.1.toList = (rdOf ByteArray.empty x0 (Int.tmod (wrap64 (x1)) (x0.length : Int))).toList then (if ((decide (bt109.1 < bt111.1)) == (Op.bytesLess ((rdOf ByteArray.empty x0 (Int.tmod (wrap64 (x1)) (x0.length : Int))).toList) ((rdOf ByteArray.empty x0 (Int.tmod (wrap64 (x2)) (x0.length : Int))).toList))) = true then (some ((bt109.1 == bt111.1) == ((rdOf ByteArray.empty x0 (Int.tmod (wrap64 (x1)) (x0.length : Int))).toList == (rdOf ByteArray.empty x0 (Int.tmod (wrap64 (x2)) (x0.length : Int))).toList))) else (some false)) else (some false)) else (some false)) else (some false)) else (some false)) else (some false))))) else (none)) else (none)) else (none)) else (none))) else (some x7)))
def manteletlaw15_IndexRises.f (k : Nat) (l0 : List ByteArray) (a1 : Int) (a2 : Int) : Option (Bool) := (manteletlaw15_shown.f k).bind fun t101 => ((manteletlaw15_few.f k l0).bind fun t102 => (if t102 = true then (manteletlaw15_IndexRises.j0 k l0 a1 a2 t101 ((l0.length : Int) == 0)) else (manteletlaw15_IndexRises.j0 k l0 a1 a2 t101 true)))
set_option maxHeartbeats 8000000 in
set_option maxRecDepth 100000 in
theorem manteletlaw15_IndexRises.calls (k : Nat) (A0 : Option Addr) (c0 : Nat) (l0 : List ByteArray) (a1 : Int) (a2 : Int) (r : Bool) (w : World) (hr0 : Kd.C Kd.string w A0 l0.length l0) (hc0 : l0.length ≤ c0) (h : manteletlaw15_IndexRises.f k l0 a1 a2 = some r) :
    Calls Try.prog 10 #[.slice A0 l0.length c0, .int .u8 a1, .int .u8 a2] w fun e w' => e = .returned (.bool r) ∧ Below w.heap.size w w' := by
  have HR0 := Aside0.mk hr0
  have HC0 := Aside0.mk hc0
  clear hr0 hc0
  have HB := Aside0.mk (Below.refl w.heap.size w)
  have H : ((manteletlaw15_shown.f k).bind fun t101 => ((manteletlaw15_few.f k l0).bind fun t102 => (if t102 = true then (manteletlaw15_IndexRises.j0 k l0 a1 a2 t101 ((l0.length : Int) == 0)) else (manteletlaw15_IndexRises.j0 k l0 a1 a2 t101 true)))) = some r := h
  clear h
  replace H := Option.bind_eq_some_iff.mp H
  obtain ⟨t101, A40, H⟩ := H
  replace H : ((manteletlaw15_few.f k l0).bind fun t102 => (if t102 = true then (manteletlaw15_IndexRises.j0 k l0 a1 a2 t101 ((l0.length : Int) == 0)) else (manteletlaw15_IndexRises.j0 k l0 a1 a2 t101 true))) = some r := H
  have A4 := Aside0.mk A40
  clear A40
  have HC5 := Aside0.mk H
  clear H
  go_enter Try.func10, Try.ntmps10
  go_upto_region 2 with (first | ((with_reducible refine gate_callee (f := 18) rfl ?_); refine goesL_ (some 18) rfl rfl Try.func18 (by kernel_rfl) rfl #[] rfl (by (try simp only [List.map_toArray, List.map_cons, List.map_nil]); first | done | rfl | (simp only [List.length_drop, List.length_take]; rfl)) ?_; (with_reducible refine (manteletlaw15_shown.calls k  t101 _ A4.out).mono ?_); rintro e w6 ⟨rfl, hb⟩; refine ⟨_, rfl, ?_⟩; have n0_ := Aside0.mk (below_step (by repeat (first | (with_reducible first | exact HB.out | apply below_alloc | apply pw_below_drewN | apply below_drew1) | exact HB.out)) hb); clear HB; have HB := n0_; clear n0_; (try clear hb); (try clear hb2); (try clear hk); (try clear hi)))
  (try simp only [Act.put, List.setIfInBounds_toArray, List.set_cons_zero, List.set_cons_succ])
  go_cut [26] (fun v26 wc => ∃ (kq : Nat) (x26_4 : Bool), v26 = .bool x26_4 ∧ Aside0 (manteletlaw15_IndexRises.j0 kq l0 a1 a2 t101 x26_4 = some r) ∧ Aside0 (kq ≤ k) ∧ Aside0 (Below w.heap.size w wc))
  case first =>
    have H := HC5.out
    clear HC5
    replace H := Option.bind_eq_some_iff.mp H
    obtain ⟨t102, A70, H⟩ := H
    replace H : (if t102 = true then (manteletlaw15_IndexRises.j0 k l0 a1 a2 t101 ((l0.length : Int) == 0)) else (manteletlaw15_IndexRises.j0 k l0 a1 a2 t101 true)) = some r := H
    have A7 := Aside0.mk A70
    clear A70
    by_cases c8 : t102 = true
    · subst c8
      have H1 : (manteletlaw15_IndexRises.j0 k l0 a1 a2 t101 ((l0.length : Int) == 0)) = some r := by rw [if_pos rfl] at H; exact H
      clear H
      have H := H1
      clear H1
      have H' := Aside0.mk H
      clear H
      go_wp2_with (first | ((with_reducible refine gate_callee (f := 19) rfl ?_); refine goesL_ (some 20) rfl rfl Try.func19 (by kernel_rfl) rfl #[.slice A0 l0.length c0] rfl (by (try simp only [List.map_toArray, List.map_cons, List.map_nil]); first | done | rfl | (simp only [List.length_drop, List.length_take]; rfl)) ?_; (with_reducible refine (manteletlaw15_few.calls k _ _ l0 true _ ?side1 ?side2 A7.out).mono ?_); (case side1 => repeat (first | exact (Kd.C_below HR0.out HB.out) | (with_reducible refine Kd.C_alloc ?_ _) | (with_reducible refine Kd.C_drewN ?_ _) | (with_reducible refine Kd.C_drew ?_))); (case side2 => exact HC0.out); rintro e w' ⟨rfl, ⟨nd, rfl⟩⟩; refine ⟨_, rfl, ?_⟩))
      go_meet
      case rel => exact ⟨_, (((l0.length : Int) == 0)), (by first | rfl | (simp; done) | (simp [*]; done)), H', ⟨by first | omega | exact Nat.le_refl _⟩, ⟨by repeat (first | (with_reducible first | exact HB.out | apply below_alloc | apply pw_below_drewN | apply below_drew1) | exact HB.out)⟩⟩
    · replace c8 := Bool.eq_false_iff.mpr c8
      subst c8
      have H1 : (manteletlaw15_IndexRises.j0 k l0 a1 a2 t101 true) = some r := by rw [if_neg (show ¬ (false = true) by decide)] at H; exact H
      clear H
      have H := H1
      clear H1
      have H' := Aside0.mk H
      clear H
      go_wp2_with (first | ((with_reducible refine gate_callee (f := 19) rfl ?_); refine goesL_ (some 20) rfl rfl Try.func19 (by kernel_rfl) rfl #[.slice A0 l0.length c0] rfl (by (try simp only [List.map_toArray, List.map_cons, List.map_nil]); first | done | rfl | (simp only [List.length_drop, List.length_take]; rfl)) ?_; (with_reducible refine (manteletlaw15_few.calls k _ _ l0 false _ ?side1 ?side2 A7.out).mono ?_); (case side1 => repeat (first | exact (Kd.C_below HR0.out HB.out) | (with_reducible refine Kd.C_alloc ?_ _) | (with_reducible refine Kd.C_drewN ?_ _) | (with_reducible refine Kd.C_drew ?_))); (case side2 => exact HC0.out); rintro e w' ⟨rfl, ⟨nd, rfl⟩⟩; refine ⟨_, rfl, ?_⟩))
      go_meet
      case rel => exact ⟨_, (true), (by first | rfl | (simp; done) | (simp [*]; done)), H', ⟨by first | omega | exact Nat.le_refl _⟩, ⟨by repeat (first | (with_reducible first | exact HB.out | apply below_alloc | apply pw_below_drewN | apply below_drew1) | exact HB.out)⟩⟩
  case rest =>
    clear HC5
    try clear c1
    try clear p2
    try clear c8
    obtain ⟨kq, x26_4, rfl, HA, HJ4, HB⟩ := hcut
    cases kq with
    | zero => exact absurd HA.out (by simp [manteletlaw15_IndexRises.j0])
    | succ kj4 =>
      have H := HA.out
      clear HA
      simp only [manteletlaw15_IndexRises.j0] at H
      by_cases c9 : x26_4 = true
      · subst c9
        have H1 : (some t101) = some r := by rw [if_pos rfl] at H; exact H
        clear H
        have H := H1
        clear H1
        obtain rfl := Option.some.inj H
        go_wp2
        go_ret
        exact ⟨by first | rfl | (simp [errW_none, errW_some] <;> rfl) | (simp [*, errW_none, errW_some] <;> rfl), by repeat (first | (with_reducible first | exact HB.out | apply below_alloc | apply pw_below_drewN | apply below_drew1) | exact HB.out)⟩
      · replace c9 := Bool.eq_false_iff.mpr c9
        subst c9
        have H1 : ((manteletref14_Build.f l0).bind fun bt103 => (if bt103.2 = 0 then (if (l0.length : Int) = 0 then (none) else (if 0 ≤ (Int.tmod (wrap64 (a1)) (l0.length : Int)) then (if (Int.tmod (wrap64 (a1)) (l0.length : Int)) < (l0.length : Int) then (if 0 ≤ (Int.tmod (wrap64 (a2)) (l0.length : Int)) then (if (Int.tmod (wrap64 (a2)) (l0.length : Int)) < (l0.length : Int) then ((index_Of.f kj4 bt103.1 (rdOf ByteArray.empty l0 (Int.tmod (wrap64 (a1)) (l0.length : Int)))).bind fun bt109 => ((index_Of.f kj4 bt103.1 (rdOf ByteArray.empty l0 (Int.tmod (wrap64 (a2)) (l0.length : Int)))).bind fun bt111 => ((index_Word.f kj4 bt103.1 bt109.1).bind fun bt113 => (if t101 = true then (if bt109.2 = true then (if bt111.2 = true then (if bt113.2 = true then (if bt113.1.toList = (rdOf ByteArray.empty l0 (Int.tmod (wrap64 (a1)) (l0.length : Int))).toList then (if ((decide (bt109.1 < bt111.1)) == (Op.bytesLess ((rdOf ByteArray.empty l0 (Int.tmod (wrap64 (a1)) (l0.length : Int))).toList) ((rdOf ByteArray.empty l0 (Int.tmod (wrap64 (a2)) (l0.length : Int))).toList))) = true then (some ((bt109.1 == bt111.1) == ((rdOf ByteArray.empty l0 (Int.tmod (wrap64 (a1)) (l0.length : Int))).toList == (rdOf ByteArray.empty l0 (Int.tmod (wrap64 (a2)) (l0.length : Int))).toList))) else (some false)) else (some false)) else (some false)) else (some false)) else (some false)) else (some false))))) else (none)) else (none)) else (none)) else (none))) else (some t101))) = some r := by rw [if_neg (show ¬ (false = true) by decide)] at H; exact H
        clear H
        have H := H1
        clear H1
        replace H := Option.bind_eq_some_iff.mp H
        obtain ⟨⟨t103, t106⟩, A100, H⟩ := H
        replace H : (if t106 = 0 then (if (l0.length : Int) = 0 then (none) else (if 0 ≤ (Int.tmod (wrap64 (a1)) (l0.length : Int)) then (if (Int.tmod (wrap64 (a1)) (l0.length : Int)) < (l0.length : Int) then (if 0 ≤ (Int.tmod (wrap64 (a2)) (l0.length : Int)) then (if (Int.tmod (wrap64 (a2)) (l0.length : Int)) < (l0.length : Int) then ((index_Of.f kj4 t103 (rdOf ByteArray.empty l0 (Int.tmod (wrap64 (a1)) (l0.length : Int)))).bind fun bt109 => ((index_Of.f kj4 t103 (rdOf ByteArray.empty l0 (Int.tmod (wrap64 (a2)) (l0.length : Int)))).bind fun bt111 => ((index_Word.f kj4 t103 bt109.1).bind fun bt113 => (if t101 = true then (if bt109.2 = true then (if bt111.2 = true then (if bt113.2 = true then (if bt113.1.toList = (rdOf ByteArray.empty l0 (Int.tmod (wrap64 (a1)) (l0.length : Int))).toList then (if ((decide (bt109.1 < bt111.1)) == (Op.bytesLess ((rdOf ByteArray.empty l0 (Int.tmod (wrap64 (a1)) (l0.length : Int))).toList) ((rdOf ByteArray.empty l0 (Int.tmod (wrap64 (a2)) (l0.length : Int))).toList))) = true then (some ((bt109.1 == bt111.1) == ((rdOf ByteArray.empty l0 (Int.tmod (wrap64 (a1)) (l0.length : Int))).toList == (rdOf ByteArray.empty l0 (Int.tmod (wrap64 (a2)) (l0.length : Int))).toList))) else (some false)) else (some false)) else (some false)) else (some false)) else (some false)) else (some false))))) else (none)) else (none)) else (none)) else (none))) else (some t101)) = some r := H
        have A10 := Aside0.mk A100
        clear A100
        by_cases c11 : t106 = 0
        · rw [if_pos c11] at H
          have c11b0 : (t106 == 0) = true := beq_iff_eq.mpr c11
          have c11b1 : (t106 != 0) = false := bne_eq_false_iff_eq.mpr c11
          clear c11
          by_cases c12 : (l0.length : Int) = 0
          · rw [if_pos c12] at H
            exact absurd H (by simp)
          · rw [if_neg c12] at H
            have c12b0 : ((l0.length : Int) == 0) = false := beq_eq_false_iff_ne.mpr c12
            have c12b1 : ((l0.length : Int) != 0) = true := bne_iff_ne.mpr c12
            have c12b2 : ¬ (l0 = []) := fun h_ => c12 (by rw [h_]; rfl)
            obtain ⟨ji13, hji13⟩ : ∃ j_ : Int, (Int.tmod (wrap64 (a1)) (l0.length : Int)) = j_ := ⟨_, rfl⟩
            replace H : (if 0 ≤ (ji13) then (if (ji13) < (l0.length : Int) then (if 0 ≤ (Int.tmod (wrap64 (a2)) (l0.length : Int)) then (if (Int.tmod (wrap64 (a2)) (l0.length : Int)) < (l0.length : Int) then ((index_Of.f kj4 t103 (rdOf ByteArray.empty l0 (ji13))).bind fun bt109 => ((index_Of.f kj4 t103 (rdOf ByteArray.empty l0 (Int.tmod (wrap64 (a2)) (l0.length : Int)))).bind fun bt111 => ((index_Word.f kj4 t103 bt109.1).bind fun bt113 => (if t101 = true then (if bt109.2 = true then (if bt111.2 = true then (if bt113.2 = true then (if bt113.1.toList = (rdOf ByteArray.empty l0 (ji13)).toList then (if ((decide (bt109.1 < bt111.1)) == (Op.bytesLess ((rdOf ByteArray.empty l0 (ji13)).toList) ((rdOf ByteArray.empty l0 (Int.tmod (wrap64 (a2)) (l0.length : Int))).toList))) = true then (some ((bt109.1 == bt111.1) == ((rdOf ByteArray.empty l0 (ji13)).toList == (rdOf ByteArray.empty l0 (Int.tmod (wrap64 (a2)) (l0.length : Int))).toList))) else (some false)) else (some false)) else (some false)) else (some false)) else (some false)) else (some false))))) else (none)) else (none)) else (none)) else (none)) = some r := by first | (rw [hji13] at H; exact H) | (simp only [hji13] at H ⊢; exact H)
            (try rw [hji13] at A10)
            by_cases c14 : 0 ≤ (ji13)
            · rw [if_pos c14] at H
              have c14b0 : decide (0 ≤ (ji13)) = true := decide_eq_true c14
              clear c14
              by_cases c15 : (ji13) < (l0.length : Int)
              · rw [if_pos c15] at H
                have c15b0 : decide ((ji13) < (l0.length : Int)) = true := decide_eq_true c15
                clear c15
                obtain ⟨ji16, hji16⟩ : ∃ j_ : Int, (Int.tmod (wrap64 (a2)) (l0.length : Int)) = j_ := ⟨_, rfl⟩
                replace H : (if 0 ≤ (ji16) then (if (ji16) < (l0.length : Int) then ((index_Of.f kj4 t103 (rdOf ByteArray.empty l0 (ji13))).bind fun bt109 => ((index_Of.f kj4 t103 (rdOf ByteArray.empty l0 (ji16))).bind fun bt111 => ((index_Word.f kj4 t103 bt109.1).bind fun bt113 => (if t101 = true then (if bt109.2 = true then (if bt111.2 = true then (if bt113.2 = true then (if bt113.1.toList = (rdOf ByteArray.empty l0 (ji13)).toList then (if ((decide (bt109.1 < bt111.1)) == (Op.bytesLess ((rdOf ByteArray.empty l0 (ji13)).toList) ((rdOf ByteArray.empty l0 (ji16)).toList))) = true then (some ((bt109.1 == bt111.1) == ((rdOf ByteArray.empty l0 (ji13)).toList == (rdOf ByteArray.empty l0 (ji16)).toList))) else (some false)) else (some false)) else (some false)) else (some false)) else (some false)) else (some false))))) else (none)) else (none)) = some r := by first | (rw [hji16] at H; exact H) | (simp only [hji16] at H ⊢; exact H)
                (try rw [hji16] at A10)
                by_cases c17 : 0 ≤ (ji16)
                · rw [if_pos c17] at H
                  have c17b0 : decide (0 ≤ (ji16)) = true := decide_eq_true c17
                  clear c17
                  by_cases c18 : (ji16) < (l0.length : Int)
                  · rw [if_pos c18] at H
                    have c18b0 : decide ((ji16) < (l0.length : Int)) = true := decide_eq_true c18
                    clear c18
                    replace H := Option.bind_eq_some_iff.mp H
                    obtain ⟨⟨t109, t110⟩, A190, H⟩ := H
                    replace H : ((index_Of.f kj4 t103 (rdOf ByteArray.empty l0 (ji16))).bind fun bt111 => ((index_Word.f kj4 t103 t109).bind fun bt113 => (if t101 = true then (if t110 = true then (if bt111.2 = true then (if bt113.2 = true then (if bt113.1.toList = (rdOf ByteArray.empty l0 (ji13)).toList then (if ((decide (t109 < bt111.1)) == (Op.bytesLess ((rdOf ByteArray.empty l0 (ji13)).toList) ((rdOf ByteArray.empty l0 (ji16)).toList))) = true then (some ((t109 == bt111.1) == ((rdOf ByteArray.empty l0 (ji13)).toList == (rdOf ByteArray.empty l0 (ji16)).toList))) else (some false)) else (some false)) else (some false)) else (some false)) else (some false)) else (some false)))) = some r := H
                    have A19 := Aside0.mk A190
                    clear A190
                    replace H := Option.bind_eq_some_iff.mp H
                    obtain ⟨⟨t111, t112⟩, A200, H⟩ := H
                    replace H : ((index_Word.f kj4 t103 t109).bind fun bt113 => (if t101 = true then (if t110 = true then (if t112 = true then (if bt113.2 = true then (if bt113.1.toList = (rdOf ByteArray.empty l0 (ji13)).toList then (if ((decide (t109 < t111)) == (Op.bytesLess ((rdOf ByteArray.empty l0 (ji13)).toList) ((rdOf ByteArray.empty l0 (ji16)).toList))) = true then (some ((t109 == t111) == ((rdOf ByteArray.empty l0 (ji13)).toList == (rdOf ByteArray.empty l0 (ji16)).toList))) else (some false)) else (some false)) else (some false)) else (some false)) else (some false)) else (some false))) = some r := H
                    have A20 := Aside0.mk A200
                    clear A200
                    replace H := Option.bind_eq_some_iff.mp H
                    obtain ⟨⟨t113, t114⟩, A210, H⟩ := H
                    replace H : (if t101 = true then (if t110 = true then (if t112 = true then (if t114 = true then (if t113.toList = (rdOf ByteArray.empty l0 (ji13)).toList then (if ((decide (t109 < t111)) == (Op.bytesLess ((rdOf ByteArray.empty l0 (ji13)).toList) ((rdOf ByteArray.empty l0 (ji16)).toList))) = true then (some ((t109 == t111) == ((rdOf ByteArray.empty l0 (ji13)).toList == (rdOf ByteArray.empty l0 (ji16)).toList))) else (some false)) else (some false)) else (some false)) else (some false)) else (some false)) else (some false)) = some r := H
                    have A21 := Aside0.mk A210
                    clear A210
                    by_cases c22 : t101 = true
                    · subst c22
                      have H1 : (if t110 = true then (if t112 = true then (if t114 = true then (if t113.toList = (rdOf ByteArray.empty l0 (ji13)).toList then (if ((decide (t109 < t111)) == (Op.bytesLess ((rdOf ByteArray.empty l0 (ji13)).toList) ((rdOf ByteArray.empty l0 (ji16)).toList))) = true then (some ((t109 == t111) == ((rdOf ByteArray.empty l0 (ji13)).toList == (rdOf ByteArray.empty l0 (ji16)).toList))) else (some false)) else (some false)) else (some false)) else (some false)) else (some false)) = some r := by rw [if_pos rfl] at H; exact H
                      clear H
                      have H := H1
                      clear H1
                      by_cases c23 : t110 = true
                      · subst c23
                        have H1 : (if t112 = true then (if t114 = true then (if t113.toList = (rdOf ByteArray.empty l0 (ji13)).toList then (if ((decide (t109 < t111)) == (Op.bytesLess ((rdOf ByteArray.empty l0 (ji13)).toList) ((rdOf ByteArray.empty l0 (ji16)).toList))) = true then (some ((t109 == t111) == ((rdOf ByteArray.empty l0 (ji13)).toList == (rdOf ByteArray.empty l0 (ji16)).toList))) else (some false)) else (some false)) else (some false)) else (some false)) = some r := by rw [if_pos rfl] at H; exact H
                        clear H
                        have H := H1
                        clear H1
                        by_cases c24 : t112 = true
                        · subst c24
                          have H1 : (if t114 = true then (if t113.toList = (rdOf ByteArray.empty l0 (ji13)).toList then (if ((decide (t109 < t111)) == (Op.bytesLess ((rdOf ByteArray.empty l0 (ji13)).toList) ((rdOf ByteArray.empty l0 (ji16)).toList))) = true then (some ((t109 == t111) == ((rdOf ByteArray.empty l0 (ji13)).toList == (rdOf ByteArray.empty l0 (ji16)).toList))) else (some false)) else (some false)) else (some false)) = some r := by rw [if_pos rfl] at H; exact H
                          clear H
                          have H := H1
                          clear H1
                          by_cases c25 : t114 = true
                          · subst c25
                            have H1 : (if t113.toList = (rdOf ByteArray.empty l0 (ji13)).toList then (if ((decide (t109 < t111)) == (Op.bytesLess ((rdOf ByteArray.empty l0 (ji13)).toList) ((rdOf ByteArray.empty l0 (ji16)).toList))) = true then (some ((t109 == t111) == ((rdOf ByteArray.empty l0 (ji13)).toList == (rdOf ByteArray.empty l0 (ji16)).toList))) else (some false)) else (some false)) = some r := by rw [if_pos rfl] at H; exact H
                            clear H
                            have H := H1
                            clear H1
                            by_cases c26 : t113.toList = (rdOf ByteArray.empty l0 (ji13)).toList
                            · rw [if_pos c26] at H
                              have c26b0 : (t113.toList == (rdOf ByteArray.empty l0 (ji13)).toList) = true := beq_iff_eq.mpr c26
                              have c26b1 : (t113.toList != (rdOf ByteArray.empty l0 (ji13)).toList) = false := bne_eq_false_iff_eq.mpr c26
                              clear c26
                              by_cases c27 : ((decide (t109 < t111)) == (Op.bytesLess ((rdOf ByteArray.empty l0 (ji13)).toList) ((rdOf ByteArray.empty l0 (ji16)).toList))) = true
                              · rw [if_pos c27] at H
                                have c27b0 : ((decide (t109 < t111)) == (Op.bytesLess ((rdOf ByteArray.empty l0 (ji13)).toList) ((rdOf ByteArray.empty l0 (ji16)).toList))) = true := c27
                                (try (have c27b1 : decide ((decide (t109 < t111)) = (Op.bytesLess ((rdOf ByteArray.empty l0 (ji13)).toList) ((rdOf ByteArray.empty l0 (ji16)).toList))) = true := by simpa using c27))
                                (try (have c27b2 : ((decide (t109 < t111)) == (Op.bytesLess ((rdOf ByteArray.empty l0 (ji13)).toList) ((rdOf ByteArray.empty l0 (ji16)).toList))) = true := by simpa using c27))
                                clear c27
                                obtain rfl := Option.some.inj H
                                go_wp2_with (first | ((with_reducible refine gate_callee (f := 20) rfl ?_); refine goesL_ (some 30) rfl rfl Try.func20 (by kernel_rfl) rfl #[.slice A0 l0.length c0] rfl (by (try simp only [List.map_toArray, List.map_cons, List.map_nil]); first | done | rfl | (simp only [List.length_drop, List.length_take]; rfl)) ?_; (with_reducible refine (manteletref14_Build.calls _ _ l0 t103 t106 _ ?side1 ?side2 A10.out).mono ?_); (case side1 => repeat (first | exact (Kd.C_below HR0.out HB.out) | (with_reducible refine Kd.C_alloc ?_ _) | (with_reducible refine Kd.C_drewN ?_ _) | (with_reducible refine Kd.C_drew ?_))); (case side2 => exact HC0.out); rintro e w28 ⟨v104, rfl, ho0, hb⟩; refine ⟨_, rfl, ?_⟩; have n0_ := Aside0.mk (Kd.V_lower (Kd.V_mono (ok' := fun k_ => True) ho0 (fun k_ hk_ => trivial)) (below_size (by repeat (first | (with_reducible first | exact HB.out | apply below_alloc | apply pw_below_drewN | apply below_drew1) | exact HB.out)))); have n1_ := Aside0.mk (below_step (by repeat (first | (with_reducible first | exact HB.out | apply below_alloc | apply pw_below_drewN | apply below_drew1) | exact HB.out)) hb); clear HB; have HO105 := n0_; have HB := n1_; clear n0_ n1_; (try clear hb); (try clear hb2); (try clear hk); (try clear hi); (try clear ho0); have p107 : 0 ≤ ((ji13) : Int) := of_decide_eq_true (by first | (with_reducible assumption) | assumption); have q107 : (ji13) < (l0.length : Int) := of_decide_eq_true (by first | (with_reducible assumption) | assumption); obtain ⟨ad107, e107, hx107_0⟩ := Kd.at_string HR0.out (ji13) p107 q107; cases e107; replace hx107_0 := (HB.out.cell (World.block_lt_of_cell? w _ hx107_0)).trans hx107_0; replace p107 := eq_true p107; replace q107 := eq_true q107; have p108 : 0 ≤ ((ji16) : Int) := of_decide_eq_true (by first | (with_reducible assumption) | assumption); have q108 : (ji16) < (l0.length : Int) := of_decide_eq_true (by first | (with_reducible assumption) | assumption); obtain ⟨ad108, e108, hx108_0⟩ := Kd.at_string HR0.out (ji16) p108 q108; obtain rfl : ad107 = ad108 := (by injection e108); replace hx108_0 := (HB.out.cell (World.block_lt_of_cell? w _ hx108_0)).trans hx108_0; replace p108 := eq_true p108; replace q108 := eq_true q108; obtain ⟨Ao29, co29, eo29⟩ := Kd.V_slice HO105.out; subst eo29) | ((with_reducible refine gate_callee (f := 23) rfl ?_); refine goesL_ (some 55) rfl rfl Try.func23 (by kernel_rfl) rfl #[.slice Ao29 t103.length co29, .string (rdOf ByteArray.empty l0 (ji13))] rfl (by (try simp only [List.map_toArray, List.map_cons, List.map_nil]); first | done | (simp only [hji13]; rfl) | rfl | (simp only [List.length_drop, List.length_take]; rfl)) ?_; (with_reducible refine (index_Of.calls kj4 _ _ t103 (rdOf ByteArray.empty l0 (ji13)) t109 true _ ?side1 ?side2 A19.out).mono ?_); (case side1 => repeat (first | exact (Kd.V_reads' HO105.out).2.2 | (with_reducible refine Kd.C_alloc ?_ _) | (with_reducible refine Kd.C_drewN ?_ _) | (with_reducible refine Kd.C_drew ?_))); (case side2 => exact (Kd.V_reads' HO105.out).2.1); rintro e w30 ⟨rfl, hb⟩; refine ⟨_, rfl, ?_⟩; have n0_ := Aside0.mk (Kd.V_below (by (with_reducible repeat (first | apply Kd.V_alloc | apply Kd.V_drewN | apply Kd.V_drew)); exact HO105.out) hb); have n1_ := Aside0.mk (below_step (by repeat (first | (with_reducible first | exact HB.out | apply below_alloc | apply pw_below_drewN | apply below_drew1) | exact HB.out)) hb); clear HO105; clear HB; have HO105 := n0_; have HB := n1_; clear n0_ n1_; (try clear hb); (try clear hb2); (try clear hk); (try clear hi)) | ((with_reducible refine gate_callee (f := 23) rfl ?_); refine goesL_ (some 61) rfl rfl Try.func23 (by kernel_rfl) rfl #[.slice Ao29 t103.length co29, .string (rdOf ByteArray.empty l0 (ji16))] rfl (by (try simp only [List.map_toArray, List.map_cons, List.map_nil]); first | done | (simp only [hji16]; rfl) | rfl | (simp only [List.length_drop, List.length_take]; rfl)) ?_; (with_reducible refine (index_Of.calls kj4 _ _ t103 (rdOf ByteArray.empty l0 (ji16)) t111 true _ ?side1 ?side2 A20.out).mono ?_); (case side1 => repeat (first | exact (Kd.V_reads' HO105.out).2.2 | (with_reducible refine Kd.C_alloc ?_ _) | (with_reducible refine Kd.C_drewN ?_ _) | (with_reducible refine Kd.C_drew ?_))); (case side2 => exact (Kd.V_reads' HO105.out).2.1); rintro e w31 ⟨rfl, hb⟩; refine ⟨_, rfl, ?_⟩; have n0_ := Aside0.mk (Kd.V_below (by (with_reducible repeat (first | apply Kd.V_alloc | apply Kd.V_drewN | apply Kd.V_drew)); exact HO105.out) hb); have n1_ := Aside0.mk (below_step (by repeat (first | (with_reducible first | exact HB.out | apply below_alloc | apply pw_below_drewN | apply below_drew1) | exact HB.out)) hb); clear HO105; clear HB; have HO105 := n0_; have HB := n1_; clear n0_ n1_; (try clear hb); (try clear hb2); (try clear hk); (try clear hi)) | ((with_reducible refine gate_callee (f := 25) rfl ?_); refine goesL_ (some 67) rfl rfl Try.func25 (by kernel_rfl) rfl #[.slice Ao29 t103.length co29, .int .i64 t109] rfl (by (try simp only [List.map_toArray, List.map_cons, List.map_nil]); first | done | rfl | (simp only [List.length_drop, List.length_take]; rfl)) ?_; (with_reducible refine (index_Word.calls kj4 _ _ t103 t109 t113 true _ ?side1 ?side2 A21.out).mono ?_); (case side1 => repeat (first | exact (Kd.V_reads' HO105.out).2.2 | (with_reducible refine Kd.C_alloc ?_ _) | (with_reducible refine Kd.C_drewN ?_ _) | (with_reducible refine Kd.C_drew ?_))); (case side2 => exact (Kd.V_reads' HO105.out).2.1); rintro e w32 ⟨rfl, hb⟩; refine ⟨_, rfl, ?_⟩; have n0_ := Aside0.mk (Kd.V_below (by (with_reducible repeat (first | apply Kd.V_alloc | apply Kd.V_drewN | apply Kd.V_drew)); exact HO105.out) hb); have n1_ := Aside0.mk (below_step (by repeat (first | (with_reducible first | exact HB.out | apply below_alloc | apply pw_below_drewN | apply below_drew1) | exact HB.out)) hb); clear HO105; clear HB; have HO105 := n0_; have HB := n1_; clear n0_ n1_; (try clear hb); (try clear hb2); (try clear hk); (try clear hi)))
                                go_ret
                                exact ⟨by first | rfl | (simp [errW_none, errW_some] <;> rfl) | (simp only [← hji13, ← hji16]; first | rfl | (simp [errW_none, errW_some] <;> rfl)) | (simp [*, errW_none, errW_some] <;> rfl), by repeat (first | (with_reducible first | exact HB.out | apply below_alloc | apply pw_below_drewN | apply below_drew1) | exact HB.out)⟩
                              · rw [if_neg c27] at H
                                have c27b0 : ((decide (t109 < t111)) == (Op.bytesLess ((rdOf ByteArray.empty l0 (ji13)).toList) ((rdOf ByteArray.empty l0 (ji16)).toList))) = false := by simpa using c27
                                (try (have c27b1 : decide ((decide (t109 < t111)) = (Op.bytesLess ((rdOf ByteArray.empty l0 (ji13)).toList) ((rdOf ByteArray.empty l0 (ji16)).toList))) = false := by simpa using c27))
                                (try (have c27b2 : ((decide (t109 < t111)) == (Op.bytesLess ((rdOf ByteArray.empty l0 (ji13)).toList) ((rdOf ByteArray.empty l0 (ji16)).toList))) = false := by simpa using c27))
                                (try (have c27b3 : ¬ ((decide (t109 < t111)) = (Op.bytesLess ((rdOf ByteArray.empty l0 (ji13)).toList) ((rdOf ByteArray.empty l0 (ji16)).toList))) := by simpa using c27))
                                clear c27
                                obtain rfl := Option.some.inj H
                                go_wp2_with (first | ((with_reducible refine gate_callee (f := 20) rfl ?_); refine goesL_ (some 30) rfl rfl Try.func20 (by kernel_rfl) rfl #[.slice A0 l0.length c0] rfl (by (try simp only [List.map_toArray, List.map_cons, List.map_nil]); first | done | rfl | (simp only [List.length_drop, List.length_take]; rfl)) ?_; (with_reducible refine (manteletref14_Build.calls _ _ l0 t103 t106 _ ?side1 ?side2 A10.out).mono ?_); (case side1 => repeat (first | exact (Kd.C_below HR0.out HB.out) | (with_reducible refine Kd.C_alloc ?_ _) | (with_reducible refine Kd.C_drewN ?_ _) | (with_reducible refine Kd.C_drew ?_))); (case side2 => exact HC0.out); rintro e w33 ⟨v104, rfl, ho0, hb⟩; refine ⟨_, rfl, ?_⟩; have n0_ := Aside0.mk (Kd.V_lower (Kd.V_mono (ok' := fun k_ => True) ho0 (fun k_ hk_ => trivial)) (below_size (by repeat (first | (with_reducible first | exact HB.out | apply below_alloc | apply pw_below_drewN | apply below_drew1) | exact HB.out)))); have n1_ := Aside0.mk (below_step (by repeat (first | (with_reducible first | exact HB.out | apply below_alloc | apply pw_below_drewN | apply below_drew1) | exact HB.out)) hb); clear HB; have HO105 := n0_; have HB := n1_; clear n0_ n1_; (try clear hb); (try clear hb2); (try clear hk); (try clear hi); (try clear ho0); have p107 : 0 ≤ ((ji13) : Int) := of_decide_eq_true (by first | (with_reducible assumption) | assumption); have q107 : (ji13) < (l0.length : Int) := of_decide_eq_true (by first | (with_reducible assumption) | assumption); obtain ⟨ad107, e107, hx107_0⟩ := Kd.at_string HR0.out (ji13) p107 q107; cases e107; replace hx107_0 := (HB.out.cell (World.block_lt_of_cell? w _ hx107_0)).trans hx107_0; replace p107 := eq_true p107; replace q107 := eq_true q107; have p108 : 0 ≤ ((ji16) : Int) := of_decide_eq_true (by first | (with_reducible assumption) | assumption); have q108 : (ji16) < (l0.length : Int) := of_decide_eq_true (by first | (with_reducible assumption) | assumption); obtain ⟨ad108, e108, hx108_0⟩ := Kd.at_string HR0.out (ji16) p108 q108; obtain rfl : ad107 = ad108 := (by injection e108); replace hx108_0 := (HB.out.cell (World.block_lt_of_cell? w _ hx108_0)).trans hx108_0; replace p108 := eq_true p108; replace q108 := eq_true q108; obtain ⟨Ao34, co34, eo34⟩ := Kd.V_slice HO105.out; subst eo34) | ((with_reducible refine gate_callee (f := 23) rfl ?_); refine goesL_ (some 55) rfl rfl Try.func23 (by kernel_rfl) rfl #[.slice Ao34 t103.length co34, .string (rdOf ByteArray.empty l0 (ji13))] rfl (by (try simp only [List.map_toArray, List.map_cons, List.map_nil]); first | done | (simp only [hji13]; rfl) | rfl | (simp only [List.length_drop, List.length_take]; rfl)) ?_; (with_reducible refine (index_Of.calls kj4 _ _ t103 (rdOf ByteArray.empty l0 (ji13)) t109 true _ ?side1 ?side2 A19.out).mono ?_); (case side1 => repeat (first | exact (Kd.V_reads' HO105.out).2.2 | (with_reducible refine Kd.C_alloc ?_ _) | (with_reducible refine Kd.C_drewN ?_ _) | (with_reducible refine Kd.C_drew ?_))); (case side2 => exact (Kd.V_reads' HO105.out).2.1); rintro e w35 ⟨rfl, hb⟩; refine ⟨_, rfl, ?_⟩; have n0_ := Aside0.mk (Kd.V_below (by (with_reducible repeat (first | apply Kd.V_alloc | apply Kd.V_drewN | apply Kd.V_drew)); exact HO105.out) hb); have n1_ := Aside0.mk (below_step (by repeat (first | (with_reducible first | exact HB.out | apply below_alloc | apply pw_below_drewN | apply below_drew1) | exact HB.out)) hb); clear HO105; clear HB; have HO105 := n0_; have HB := n1_; clear n0_ n1_; (try clear hb); (try clear hb2); (try clear hk); (try clear hi)) | ((with_reducible refine gate_callee (f := 23) rfl ?_); refine goesL_ (some 61) rfl rfl Try.func23 (by kernel_rfl) rfl #[.slice Ao34 t103.length co34, .string (rdOf ByteArray.empty l0 (ji16))] rfl (by (try simp only [List.map_toArray, List.map_cons, List.map_nil]); first | done | (simp only [hji16]; rfl) | rfl | (simp only [List.length_drop, List.length_take]; rfl)) ?_; (with_reducible refine (index_Of.calls kj4 _ _ t103 (rdOf ByteArray.empty l0 (ji16)) t111 true _ ?side1 ?side2 A20.out).mono ?_); (case side1 => repeat (first | exact (Kd.V_reads' HO105.out).2.2 | (with_reducible refine Kd.C_alloc ?_ _) | (with_reducible refine Kd.C_drewN ?_ _) | (with_reducible refine Kd.C_drew ?_))); (case side2 => exact (Kd.V_reads' HO105.out).2.1); rintro e w36 ⟨rfl, hb⟩; refine ⟨_, rfl, ?_⟩; have n0_ := Aside0.mk (Kd.V_below (by (with_reducible repeat (first | apply Kd.V_alloc | apply Kd.V_drewN | apply Kd.V_drew)); exact HO105.out) hb); have n1_ := Aside0.mk (below_step (by repeat (first | (with_reducible first | exact HB.out | apply below_alloc | apply pw_below_drewN | apply below_drew1) | exact HB.out)) hb); clear HO105; clear HB; have HO105 := n0_; have HB := n1_; clear n0_ n1_; (try clear hb); (try clear hb2); (try clear hk); (try clear hi)) | ((with_reducible refine gate_callee (f := 25) rfl ?_); refine goesL_ (some 67) rfl rfl Try.func25 (by kernel_rfl) rfl #[.slice Ao34 t103.length co34, .int .i64 t109] rfl (by (try simp only [List.map_toArray, List.map_cons, List.map_nil]); first | done | rfl | (simp only [List.length_drop, List.length_take]; rfl)) ?_; (with_reducible refine (index_Word.calls kj4 _ _ t103 t109 t113 true _ ?side1 ?side2 A21.out).mono ?_); (case side1 => repeat (first | exact (Kd.V_reads' HO105.out).2.2 | (with_reducible refine Kd.C_alloc ?_ _) | (with_reducible refine Kd.C_drewN ?_ _) | (with_reducible refine Kd.C_drew ?_))); (case side2 => exact (Kd.V_reads' HO105.out).2.1); rintro e w37 ⟨rfl, hb⟩; refine ⟨_, rfl, ?_⟩; have n0_ := Aside0.mk (Kd.V_below (by (with_reducible repeat (first | apply Kd.V_alloc | apply Kd.V_drewN | apply Kd.V_drew)); exact HO105.out) hb); have n1_ := Aside0.mk (below_step (by repeat (first | (with_reducible first | exact HB.out | apply below_alloc | apply pw_below_drewN | apply below_drew1) | exact HB.out)) hb); clear HO105; clear HB; have HO105 := n0_; have HB := n1_; clear n0_ n1_; (try clear hb); (try clear hb2); (try clear hk); (try clear hi)))
                                go_ret
                                exact ⟨by first | rfl | (simp [errW_none, errW_some] <;> rfl) | (simp only [← hji13, ← hji16]; first | rfl | (simp [errW_none, errW_some] <;> rfl)) | (simp [*, errW_none, errW_some] <;> rfl), by repeat (first | (with_reducible first | exact HB.out | apply below_alloc | apply pw_below_drewN | apply below_drew1) | exact HB.out)⟩
                            · rw [if_neg c26] at H
                              have c26b0 : (t113.toList == (rdOf ByteArray.empty l0 (ji13)).toList) = false := beq_eq_false_iff_ne.mpr c26
                              have c26b1 : (t113.toList != (rdOf ByteArray.empty l0 (ji13)).toList) = true := bne_iff_ne.mpr c26
                              obtain rfl := Option.some.inj H
                              go_wp2_with (first | ((with_reducible refine gate_callee (f := 20) rfl ?_); refine goesL_ (some 30) rfl rfl Try.func20 (by kernel_rfl) rfl #[.slice A0 l0.length c0] rfl (by (try simp only [List.map_toArray, List.map_cons, List.map_nil]); first | done | rfl | (simp only [List.length_drop, List.length_take]; rfl)) ?_; (with_reducible refine (manteletref14_Build.calls _ _ l0 t103 t106 _ ?side1 ?side2 A10.out).mono ?_); (case side1 => repeat (first | exact (Kd.C_below HR0.out HB.out) | (with_reducible refine Kd.C_alloc ?_ _) | (with_reducible refine Kd.C_drewN ?_ _) | (with_reducible refine Kd.C_drew ?_))); (case side2 => exact HC0.out); rintro e w38 ⟨v104, rfl, ho0, hb⟩; refine ⟨_, rfl, ?_⟩; have n0_ := Aside0.mk (Kd.V_lower (Kd.V_mono (ok' := fun k_ => True) ho0 (fun k_ hk_ => trivial)) (below_size (by repeat (first | (with_reducible first | exact HB.out | apply below_alloc | apply pw_below_drewN | apply below_drew1) | exact HB.out)))); have n1_ := Aside0.mk (below_step (by repeat (first | (with_reducible first | exact HB.out | apply below_alloc | apply pw_below_drewN | apply below_drew1) | exact HB.out)) hb); clear HB; have HO105 := n0_; have HB := n1_; clear n0_ n1_; (try clear hb); (try clear hb2); (try clear hk); (try clear hi); (try clear ho0); have p107 : 0 ≤ ((ji13) : Int) := of_decide_eq_true (by first | (with_reducible assumption) | assumption); have q107 : (ji13) < (l0.length : Int) := of_decide_eq_true (by first | (with_reducible assumption) | assumption); obtain ⟨ad107, e107, hx107_0⟩ := Kd.at_string HR0.out (ji13) p107 q107; cases e107; replace hx107_0 := (HB.out.cell (World.block_lt_of_cell? w _ hx107_0)).trans hx107_0; replace p107 := eq_true p107; replace q107 := eq_true q107; have p108 : 0 ≤ ((ji16) : Int) := of_decide_eq_true (by first | (with_reducible assumption) | assumption); have q108 : (ji16) < (l0.length : Int) := of_decide_eq_true (by first | (with_reducible assumption) | assumption); obtain ⟨ad108, e108, hx108_0⟩ := Kd.at_string HR0.out (ji16) p108 q108; obtain rfl : ad107 = ad108 := (by injection e108); replace hx108_0 := (HB.out.cell (World.block_lt_of_cell? w _ hx108_0)).trans hx108_0; replace p108 := eq_true p108; replace q108 := eq_true q108; obtain ⟨Ao39, co39, eo39⟩ := Kd.V_slice HO105.out; subst eo39) | ((with_reducible refine gate_callee (f := 23) rfl ?_); refine goesL_ (some 55) rfl rfl Try.func23 (by kernel_rfl) rfl #[.slice Ao39 t103.length co39, .string (rdOf ByteArray.empty l0 (ji13))] rfl (by (try simp only [List.map_toArray, List.map_cons, List.map_nil]); first | done | (simp only [hji13]; rfl) | rfl | (simp only [List.length_drop, List.length_take]; rfl)) ?_; (with_reducible refine (index_Of.calls kj4 _ _ t103 (rdOf ByteArray.empty l0 (ji13)) t109 true _ ?side1 ?side2 A19.out).mono ?_); (case side1 => repeat (first | exact (Kd.V_reads' HO105.out).2.2 | (with_reducible refine Kd.C_alloc ?_ _) | (with_reducible refine Kd.C_drewN ?_ _) | (with_reducible refine Kd.C_drew ?_))); (case side2 => exact (Kd.V_reads' HO105.out).2.1); rintro e w40 ⟨rfl, hb⟩; refine ⟨_, rfl, ?_⟩; have n0_ := Aside0.mk (Kd.V_below (by (with_reducible repeat (first | apply Kd.V_alloc | apply Kd.V_drewN | apply Kd.V_drew)); exact HO105.out) hb); have n1_ := Aside0.mk (below_step (by repeat (first | (with_reducible first | exact HB.out | apply below_alloc | apply pw_below_drewN | apply below_drew1) | exact HB.out)) hb); clear HO105; clear HB; have HO105 := n0_; have HB := n1_; clear n0_ n1_; (try clear hb); (try clear hb2); (try clear hk); (try clear hi)) | ((with_reducible refine gate_callee (f := 23) rfl ?_); refine goesL_ (some 61) rfl rfl Try.func23 (by kernel_rfl) rfl #[.slice Ao39 t103.length co39, .string (rdOf ByteArray.empty l0 (ji16))] rfl (by (try simp only [List.map_toArray, List.map_cons, List.map_nil]); first | done | (simp only [hji16]; rfl) | rfl | (simp only [List.length_drop, List.length_take]; rfl)) ?_; (with_reducible refine (index_Of.calls kj4 _ _ t103 (rdOf ByteArray.empty l0 (ji16)) t111 true _ ?side1 ?side2 A20.out).mono ?_); (case side1 => repeat (first | exact (Kd.V_reads' HO105.out).2.2 | (with_reducible refine Kd.C_alloc ?_ _) | (with_reducible refine Kd.C_drewN ?_ _) | (with_reducible refine Kd.C_drew ?_))); (case side2 => exact (Kd.V_reads' HO105.out).2.1); rintro e w41 ⟨rfl, hb⟩; refine ⟨_, rfl, ?_⟩; have n0_ := Aside0.mk (Kd.V_below (by (with_reducible repeat (first | apply Kd.V_alloc | apply Kd.V_drewN | apply Kd.V_drew)); exact HO105.out) hb); have n1_ := Aside0.mk (below_step (by repeat (first | (with_reducible first | exact HB.out | apply below_alloc | apply pw_below_drewN | apply below_drew1) | exact HB.out)) hb); clear HO105; clear HB; have HO105 := n0_; have HB := n1_; clear n0_ n1_; (try clear hb); (try clear hb2); (try clear hk); (try clear hi)) | ((with_reducible refine gate_callee (f := 25) rfl ?_); refine goesL_ (some 67) rfl rfl Try.func25 (by kernel_rfl) rfl #[.slice Ao39 t103.length co39, .int .i64 t109] rfl (by (try simp only [List.map_toArray, List.map_cons, List.map_nil]); first | done | rfl | (simp only [List.length_drop, List.length_take]; rfl)) ?_; (with_reducible refine (index_Word.calls kj4 _ _ t103 t109 t113 true _ ?side1 ?side2 A21.out).mono ?_); (case side1 => repeat (first | exact (Kd.V_reads' HO105.out).2.2 | (with_reducible refine Kd.C_alloc ?_ _) | (with_reducible refine Kd.C_drewN ?_ _) | (with_reducible refine Kd.C_drew ?_))); (case side2 => exact (Kd.V_reads' HO105.out).2.1); rintro e w42 ⟨rfl, hb⟩; refine ⟨_, rfl, ?_⟩; have n0_ := Aside0.mk (Kd.V_below (by (with_reducible repeat (first | apply Kd.V_alloc | apply Kd.V_drewN | apply Kd.V_drew)); exact HO105.out) hb); have n1_ := Aside0.mk (below_step (by repeat (first | (with_reducible first | exact HB.out | apply below_alloc | apply pw_below_drewN | apply below_drew1) | exact HB.out)) hb); clear HO105; clear HB; have HO105 := n0_; have HB := n1_; clear n0_ n1_; (try clear hb); (try clear hb2); (try clear hk); (try clear hi)))
                              go_ret
                              exact ⟨by first | rfl | (simp [errW_none, errW_some] <;> rfl) | (simp only [← hji13, ← hji16]; first | rfl | (simp [errW_none, errW_some] <;> rfl)) | (simp [*, errW_none, errW_some] <;> rfl), by repeat (first | (with_reducible first | exact HB.out | apply below_alloc | apply pw_below_drewN | apply below_drew1) | exact HB.out)⟩
                          · replace c25 := Bool.eq_false_iff.mpr c25
                            subst c25
                            have H1 : (some false) = some r := by rw [if_neg (show ¬ (false = true) by decide)] at H; exact H
                            clear H
                            have H := H1
                            clear H1
                            obtain rfl := Option.some.inj H
                            go_wp2_with (first | ((with_reducible refine gate_callee (f := 20) rfl ?_); refine goesL_ (some 30) rfl rfl Try.func20 (by kernel_rfl) rfl #[.slice A0 l0.length c0] rfl (by (try simp only [List.map_toArray, List.map_cons, List.map_nil]); first | done | rfl | (simp only [List.length_drop, List.length_take]; rfl)) ?_; (with_reducible refine (manteletref14_Build.calls _ _ l0 t103 t106 _ ?side1 ?side2 A10.out).mono ?_); (case side1 => repeat (first | exact (Kd.C_below HR0.out HB.out) | (with_reducible refine Kd.C_alloc ?_ _) | (with_reducible refine Kd.C_drewN ?_ _) | (with_reducible refine Kd.C_drew ?_))); (case side2 => exact HC0.out); rintro e w43 ⟨v104, rfl, ho0, hb⟩; refine ⟨_, rfl, ?_⟩; have n0_ := Aside0.mk (Kd.V_lower (Kd.V_mono (ok' := fun k_ => True) ho0 (fun k_ hk_ => trivial)) (below_size (by repeat (first | (with_reducible first | exact HB.out | apply below_alloc | apply pw_below_drewN | apply below_drew1) | exact HB.out)))); have n1_ := Aside0.mk (below_step (by repeat (first | (with_reducible first | exact HB.out | apply below_alloc | apply pw_below_drewN | apply below_drew1) | exact HB.out)) hb); clear HB; have HO105 := n0_; have HB := n1_; clear n0_ n1_; (try clear hb); (try clear hb2); (try clear hk); (try clear hi); (try clear ho0); have p107 : 0 ≤ ((ji13) : Int) := of_decide_eq_true (by first | (with_reducible assumption) | assumption); have q107 : (ji13) < (l0.length : Int) := of_decide_eq_true (by first | (with_reducible assumption) | assumption); obtain ⟨ad107, e107, hx107_0⟩ := Kd.at_string HR0.out (ji13) p107 q107; cases e107; replace hx107_0 := (HB.out.cell (World.block_lt_of_cell? w _ hx107_0)).trans hx107_0; replace p107 := eq_true p107; replace q107 := eq_true q107; have p108 : 0 ≤ ((ji16) : Int) := of_decide_eq_true (by first | (with_reducible assumption) | assumption); have q108 : (ji16) < (l0.length : Int) := of_decide_eq_true (by first | (with_reducible assumption) | assumption); obtain ⟨ad108, e108, hx108_0⟩ := Kd.at_string HR0.out (ji16) p108 q108; obtain rfl : ad107 = ad108 := (by injection e108); replace hx108_0 := (HB.out.cell (World.block_lt_of_cell? w _ hx108_0)).trans hx108_0; replace p108 := eq_true p108; replace q108 := eq_true q108; obtain ⟨Ao44, co44, eo44⟩ := Kd.V_slice HO105.out; subst eo44) | ((with_reducible refine gate_callee (f := 23) rfl ?_); refine goesL_ (some 55) rfl rfl Try.func23 (by kernel_rfl) rfl #[.slice Ao44 t103.length co44, .string (rdOf ByteArray.empty l0 (ji13))] rfl (by (try simp only [List.map_toArray, List.map_cons, List.map_nil]); first | done | (simp only [hji13]; rfl) | rfl | (simp only [List.length_drop, List.length_take]; rfl)) ?_; (with_reducible refine (index_Of.calls kj4 _ _ t103 (rdOf ByteArray.empty l0 (ji13)) t109 true _ ?side1 ?side2 A19.out).mono ?_); (case side1 => repeat (first | exact (Kd.V_reads' HO105.out).2.2 | (with_reducible refine Kd.C_alloc ?_ _) | (with_reducible refine Kd.C_drewN ?_ _) | (with_reducible refine Kd.C_drew ?_))); (case side2 => exact (Kd.V_reads' HO105.out).2.1); rintro e w45 ⟨rfl, hb⟩; refine ⟨_, rfl, ?_⟩; have n0_ := Aside0.mk (Kd.V_below (by (with_reducible repeat (first | apply Kd.V_alloc | apply Kd.V_drewN | apply Kd.V_drew)); exact HO105.out) hb); have n1_ := Aside0.mk (below_step (by repeat (first | (with_reducible first | exact HB.out | apply below_alloc | apply pw_below_drewN | apply below_drew1) | exact HB.out)) hb); clear HO105; clear HB; have HO105 := n0_; have HB := n1_; clear n0_ n1_; (try clear hb); (try clear hb2); (try clear hk); (try clear hi)) | ((with_reducible refine gate_callee (f := 23) rfl ?_); refine goesL_ (some 61) rfl rfl Try.func23 (by kernel_rfl) rfl #[.slice Ao44 t103.length co44, .string (rdOf ByteArray.empty l0 (ji16))] rfl (by (try simp only [List.map_toArray, List.map_cons, List.map_nil]); first | done | (simp only [hji16]; rfl) | rfl | (simp only [List.length_drop, List.length_take]; rfl)) ?_; (with_reducible refine (index_Of.calls kj4 _ _ t103 (rdOf ByteArray.empty l0 (ji16)) t111 true _ ?side1 ?side2 A20.out).mono ?_); (case side1 => repeat (first | exact (Kd.V_reads' HO105.out).2.2 | (with_reducible refine Kd.C_alloc ?_ _) | (with_reducible refine Kd.C_drewN ?_ _) | (with_reducible refine Kd.C_drew ?_))); (case side2 => exact (Kd.V_reads' HO105.out).2.1); rintro e w46 ⟨rfl, hb⟩; refine ⟨_, rfl, ?_⟩; have n0_ := Aside0.mk (Kd.V_below (by (with_reducible repeat (first | apply Kd.V_alloc | apply Kd.V_drewN | apply Kd.V_drew)); exact HO105.out) hb); have n1_ := Aside0.mk (below_step (by repeat (first | (with_reducible first | exact HB.out | apply below_alloc | apply pw_below_drewN | apply below_drew1) | exact HB.out)) hb); clear HO105; clear HB; have HO105 := n0_; have HB := n1_; clear n0_ n1_; (try clear hb); (try clear hb2); (try clear hk); (try clear hi)) | ((with_reducible refine gate_callee (f := 25) rfl ?_); refine goesL_ (some 67) rfl rfl Try.func25 (by kernel_rfl) rfl #[.slice Ao44 t103.length co44, .int .i64 t109] rfl (by (try simp only [List.map_toArray, List.map_cons, List.map_nil]); first | done | rfl | (simp only [List.length_drop, List.length_take]; rfl)) ?_; (with_reducible refine (index_Word.calls kj4 _ _ t103 t109 t113 false _ ?side1 ?side2 A21.out).mono ?_); (case side1 => repeat (first | exact (Kd.V_reads' HO105.out).2.2 | (with_reducible refine Kd.C_alloc ?_ _) | (with_reducible refine Kd.C_drewN ?_ _) | (with_reducible refine Kd.C_drew ?_))); (case side2 => exact (Kd.V_reads' HO105.out).2.1); rintro e w47 ⟨rfl, hb⟩; refine ⟨_, rfl, ?_⟩; have n0_ := Aside0.mk (Kd.V_below (by (with_reducible repeat (first | apply Kd.V_alloc | apply Kd.V_drewN | apply Kd.V_drew)); exact HO105.out) hb); have n1_ := Aside0.mk (below_step (by repeat (first | (with_reducible first | exact HB.out | apply below_alloc | apply pw_below_drewN | apply below_drew1) | exact HB.out)) hb); clear HO105; clear HB; have HO105 := n0_; have HB := n1_; clear n0_ n1_; (try clear hb); (try clear hb2); (try clear hk); (try clear hi)))
                            go_ret
                            exact ⟨by first | rfl | (simp [errW_none, errW_some] <;> rfl) | (simp only [← hji13, ← hji16]; first | rfl | (simp [errW_none, errW_some] <;> rfl)) | (simp [*, errW_none, errW_some] <;> rfl), by repeat (first | (with_reducible first | exact HB.out | apply below_alloc | apply pw_below_drewN | apply below_drew1) | exact HB.out)⟩
                        · replace c24 := Bool.eq_false_iff.mpr c24
                          subst c24
                          have H1 : (some false) = some r := by rw [if_neg (show ¬ (false = true) by decide)] at H; exact H
                          clear H
                          have H := H1
                          clear H1
                          obtain rfl := Option.some.inj H
                          go_wp2_with (first | ((with_reducible refine gate_callee (f := 20) rfl ?_); refine goesL_ (some 30) rfl rfl Try.func20 (by kernel_rfl) rfl #[.slice A0 l0.length c0] rfl (by (try simp only [List.map_toArray, List.map_cons, List.map_nil]); first | done | rfl | (simp only [List.length_drop, List.length_take]; rfl)) ?_; (with_reducible refine (manteletref14_Build.calls _ _ l0 t103 t106 _ ?side1 ?side2 A10.out).mono ?_); (case side1 => repeat (first | exact (Kd.C_below HR0.out HB.out) | (with_reducible refine Kd.C_alloc ?_ _) | (with_reducible refine Kd.C_drewN ?_ _) | (with_reducible refine Kd.C_drew ?_))); (case side2 => exact HC0.out); rintro e w48 ⟨v104, rfl, ho0, hb⟩; refine ⟨_, rfl, ?_⟩; have n0_ := Aside0.mk (Kd.V_lower (Kd.V_mono (ok' := fun k_ => True) ho0 (fun k_ hk_ => trivial)) (below_size (by repeat (first | (with_reducible first | exact HB.out | apply below_alloc | apply pw_below_drewN | apply below_drew1) | exact HB.out)))); have n1_ := Aside0.mk (below_step (by repeat (first | (with_reducible first | exact HB.out | apply below_alloc | apply pw_below_drewN | apply below_drew1) | exact HB.out)) hb); clear HB; have HO105 := n0_; have HB := n1_; clear n0_ n1_; (try clear hb); (try clear hb2); (try clear hk); (try clear hi); (try clear ho0); have p107 : 0 ≤ ((ji13) : Int) := of_decide_eq_true (by first | (with_reducible assumption) | assumption); have q107 : (ji13) < (l0.length : Int) := of_decide_eq_true (by first | (with_reducible assumption) | assumption); obtain ⟨ad107, e107, hx107_0⟩ := Kd.at_string HR0.out (ji13) p107 q107; cases e107; replace hx107_0 := (HB.out.cell (World.block_lt_of_cell? w _ hx107_0)).trans hx107_0; replace p107 := eq_true p107; replace q107 := eq_true q107; have p108 : 0 ≤ ((ji16) : Int) := of_decide_eq_true (by first | (with_reducible assumption) | assumption); have q108 : (ji16) < (l0.length : Int) := of_decide_eq_true (by first | (with_reducible assumption) | assumption); obtain ⟨ad108, e108, hx108_0⟩ := Kd.at_string HR0.out (ji16) p108 q108; obtain rfl : ad107 = ad108 := (by injection e108); replace hx108_0 := (HB.out.cell (World.block_lt_of_cell? w _ hx108_0)).trans hx108_0; replace p108 := eq_true p108; replace q108 := eq_true q108; obtain ⟨Ao49, co49, eo49⟩ := Kd.V_slice HO105.out; subst eo49) | ((with_reducible refine gate_callee (f := 23) rfl ?_); refine goesL_ (some 55) rfl rfl Try.func23 (by kernel_rfl) rfl #[.slice Ao49 t103.length co49, .string (rdOf ByteArray.empty l0 (ji13))] rfl (by (try simp only [List.map_toArray, List.map_cons, List.map_nil]); first | done | (simp only [hji13]; rfl) | rfl | (simp only [List.length_drop, List.length_take]; rfl)) ?_; (with_reducible refine (index_Of.calls kj4 _ _ t103 (rdOf ByteArray.empty l0 (ji13)) t109 true _ ?side1 ?side2 A19.out).mono ?_); (case side1 => repeat (first | exact (Kd.V_reads' HO105.out).2.2 | (with_reducible refine Kd.C_alloc ?_ _) | (with_reducible refine Kd.C_drewN ?_ _) | (with_reducible refine Kd.C_drew ?_))); (case side2 => exact (Kd.V_reads' HO105.out).2.1); rintro e w50 ⟨rfl, hb⟩; refine ⟨_, rfl, ?_⟩; have n0_ := Aside0.mk (Kd.V_below (by (with_reducible repeat (first | apply Kd.V_alloc | apply Kd.V_drewN | apply Kd.V_drew)); exact HO105.out) hb); have n1_ := Aside0.mk (below_step (by repeat (first | (with_reducible first | exact HB.out | apply below_alloc | apply pw_below_drewN | apply below_drew1) | exact HB.out)) hb); clear HO105; clear HB; have HO105 := n0_; have HB := n1_; clear n0_ n1_; (try clear hb); (try clear hb2); (try clear hk); (try clear hi)) | ((with_reducible refine gate_callee (f := 23) rfl ?_); refine goesL_ (some 61) rfl rfl Try.func23 (by kernel_rfl) rfl #[.slice Ao49 t103.length co49, .string (rdOf ByteArray.empty l0 (ji16))] rfl (by (try simp only [List.map_toArray, List.map_cons, List.map_nil]); first | done | (simp only [hji16]; rfl) | rfl | (simp only [List.length_drop, List.length_take]; rfl)) ?_; (with_reducible refine (index_Of.calls kj4 _ _ t103 (rdOf ByteArray.empty l0 (ji16)) t111 false _ ?side1 ?side2 A20.out).mono ?_); (case side1 => repeat (first | exact (Kd.V_reads' HO105.out).2.2 | (with_reducible refine Kd.C_alloc ?_ _) | (with_reducible refine Kd.C_drewN ?_ _) | (with_reducible refine Kd.C_drew ?_))); (case side2 => exact (Kd.V_reads' HO105.out).2.1); rintro e w51 ⟨rfl, hb⟩; refine ⟨_, rfl, ?_⟩; have n0_ := Aside0.mk (Kd.V_below (by (with_reducible repeat (first | apply Kd.V_alloc | apply Kd.V_drewN | apply Kd.V_drew)); exact HO105.out) hb); have n1_ := Aside0.mk (below_step (by repeat (first | (with_reducible first | exact HB.out | apply below_alloc | apply pw_below_drewN | apply below_drew1) | exact HB.out)) hb); clear HO105; clear HB; have HO105 := n0_; have HB := n1_; clear n0_ n1_; (try clear hb); (try clear hb2); (try clear hk); (try clear hi)) | ((with_reducible refine gate_callee (f := 25) rfl ?_); refine goesL_ (some 67) rfl rfl Try.func25 (by kernel_rfl) rfl #[.slice Ao49 t103.length co49, .int .i64 t109] rfl (by (try simp only [List.map_toArray, List.map_cons, List.map_nil]); first | done | rfl | (simp only [List.length_drop, List.length_take]; rfl)) ?_; (with_reducible refine (index_Word.calls kj4 _ _ t103 t109 t113 t114 _ ?side1 ?side2 A21.out).mono ?_); (case side1 => repeat (first | exact (Kd.V_reads' HO105.out).2.2 | (with_reducible refine Kd.C_alloc ?_ _) | (with_reducible refine Kd.C_drewN ?_ _) | (with_reducible refine Kd.C_drew ?_))); (case side2 => exact (Kd.V_reads' HO105.out).2.1); rintro e w52 ⟨rfl, hb⟩; refine ⟨_, rfl, ?_⟩; have n0_ := Aside0.mk (Kd.V_below (by (with_reducible repeat (first | apply Kd.V_alloc | apply Kd.V_drewN | apply Kd.V_drew)); exact HO105.out) hb); have n1_ := Aside0.mk (below_step (by repeat (first | (with_reducible first | exact HB.out | apply below_alloc | apply pw_below_drewN | apply below_drew1) | exact HB.out)) hb); clear HO105; clear HB; have HO105 := n0_; have HB := n1_; clear n0_ n1_; (try clear hb); (try clear hb2); (try clear hk); (try clear hi)))
                          go_ret
                          exact ⟨by first | rfl | (simp [errW_none, errW_some] <;> rfl) | (simp only [← hji13, ← hji16]; first | rfl | (simp [errW_none, errW_some] <;> rfl)) | (simp [*, errW_none, errW_some] <;> rfl), by repeat (first | (with_reducible first | exact HB.out | apply below_alloc | apply pw_below_drewN | apply below_drew1) | exact HB.out)⟩
                      · replace c23 := Bool.eq_false_iff.mpr c23
                        subst c23
                        have H1 : (some false) = some r := by rw [if_neg (show ¬ (false = true) by decide)] at H; exact H
                        clear H
                        have H := H1
                        clear H1
                        obtain rfl := Option.some.inj H
                        go_wp2_with (first | ((with_reducible refine gate_callee (f := 20) rfl ?_); refine goesL_ (some 30) rfl rfl Try.func20 (by kernel_rfl) rfl #[.slice A0 l0.length c0] rfl (by (try simp only [List.map_toArray, List.map_cons, List.map_nil]); first | done | rfl | (simp only [List.length_drop, List.length_take]; rfl)) ?_; (with_reducible refine (manteletref14_Build.calls _ _ l0 t103 t106 _ ?side1 ?side2 A10.out).mono ?_); (case side1 => repeat (first | exact (Kd.C_below HR0.out HB.out) | (with_reducible refine Kd.C_alloc ?_ _) | (with_reducible refine Kd.C_drewN ?_ _) | (with_reducible refine Kd.C_drew ?_))); (case side2 => exact HC0.out); rintro e w53 ⟨v104, rfl, ho0, hb⟩; refine ⟨_, rfl, ?_⟩; have n0_ := Aside0.mk (Kd.V_lower (Kd.V_mono (ok' := fun k_ => True) ho0 (fun k_ hk_ => trivial)) (below_size (by repeat (first | (with_reducible first | exact HB.out | apply below_alloc | apply pw_below_drewN | apply below_drew1) | exact HB.out)))); have n1_ := Aside0.mk (below_step (by repeat (first | (with_reducible first | exact HB.out | apply below_alloc | apply pw_below_drewN | apply below_drew1) | exact HB.out)) hb); clear HB; have HO105 := n0_; have HB := n1_; clear n0_ n1_; (try clear hb); (try clear hb2); (try clear hk); (try clear hi); (try clear ho0); have p107 : 0 ≤ ((ji13) : Int) := of_decide_eq_true (by first | (with_reducible assumption) | assumption); have q107 : (ji13) < (l0.length : Int) := of_decide_eq_true (by first | (with_reducible assumption) | assumption); obtain ⟨ad107, e107, hx107_0⟩ := Kd.at_string HR0.out (ji13) p107 q107; cases e107; replace hx107_0 := (HB.out.cell (World.block_lt_of_cell? w _ hx107_0)).trans hx107_0; replace p107 := eq_true p107; replace q107 := eq_true q107; have p108 : 0 ≤ ((ji16) : Int) := of_decide_eq_true (by first | (with_reducible assumption) | assumption); have q108 : (ji16) < (l0.length : Int) := of_decide_eq_true (by first | (with_reducible assumption) | assumption); obtain ⟨ad108, e108, hx108_0⟩ := Kd.at_string HR0.out (ji16) p108 q108; obtain rfl : ad107 = ad108 := (by injection e108); replace hx108_0 := (HB.out.cell (World.block_lt_of_cell? w _ hx108_0)).trans hx108_0; replace p108 := eq_true p108; replace q108 := eq_true q108; obtain ⟨Ao54, co54, eo54⟩ := Kd.V_slice HO105.out; subst eo54) | ((with_reducible refine gate_callee (f := 23) rfl ?_); refine goesL_ (some 55) rfl rfl Try.func23 (by kernel_rfl) rfl #[.slice Ao54 t103.length co54, .string (rdOf ByteArray.empty l0 (ji13))] rfl (by (try simp only [List.map_toArray, List.map_cons, List.map_nil]); first | done | (simp only [hji13]; rfl) | rfl | (simp only [List.length_drop, List.length_take]; rfl)) ?_; (with_reducible refine (index_Of.calls kj4 _ _ t103 (rdOf ByteArray.empty l0 (ji13)) t109 false _ ?side1 ?side2 A19.out).mono ?_); (case side1 => repeat (first | exact (Kd.V_reads' HO105.out).2.2 | (with_reducible refine Kd.C_alloc ?_ _) | (with_reducible refine Kd.C_drewN ?_ _) | (with_reducible refine Kd.C_drew ?_))); (case side2 => exact (Kd.V_reads' HO105.out).2.1); rintro e w55 ⟨rfl, hb⟩; refine ⟨_, rfl, ?_⟩; have n0_ := Aside0.mk (Kd.V_below (by (with_reducible repeat (first | apply Kd.V_alloc | apply Kd.V_drewN | apply Kd.V_drew)); exact HO105.out) hb); have n1_ := Aside0.mk (below_step (by repeat (first | (with_reducible first | exact HB.out | apply below_alloc | apply pw_below_drewN | apply below_drew1) | exact HB.out)) hb); clear HO105; clear HB; have HO105 := n0_; have HB := n1_; clear n0_ n1_; (try clear hb); (try clear hb2); (try clear hk); (try clear hi)) | ((with_reducible refine gate_callee (f := 23) rfl ?_); refine goesL_ (some 61) rfl rfl Try.func23 (by kernel_rfl) rfl #[.slice Ao54 t103.length co54, .string (rdOf ByteArray.empty l0 (ji16))] rfl (by (try simp only [List.map_toArray, List.map_cons, List.map_nil]); first | done | (simp only [hji16]; rfl) | rfl | (simp only [List.length_drop, List.length_take]; rfl)) ?_; (with_reducible refine (index_Of.calls kj4 _ _ t103 (rdOf ByteArray.empty l0 (ji16)) t111 t112 _ ?side1 ?side2 A20.out).mono ?_); (case side1 => repeat (first | exact (Kd.V_reads' HO105.out).2.2 | (with_reducible refine Kd.C_alloc ?_ _) | (with_reducible refine Kd.C_drewN ?_ _) | (with_reducible refine Kd.C_drew ?_))); (case side2 => exact (Kd.V_reads' HO105.out).2.1); rintro e w56 ⟨rfl, hb⟩; refine ⟨_, rfl, ?_⟩; have n0_ := Aside0.mk (Kd.V_below (by (with_reducible repeat (first | apply Kd.V_alloc | apply Kd.V_drewN | apply Kd.V_drew)); exact HO105.out) hb); have n1_ := Aside0.mk (below_step (by repeat (first | (with_reducible first | exact HB.out | apply below_alloc | apply pw_below_drewN | apply below_drew1) | exact HB.out)) hb); clear HO105; clear HB; have HO105 := n0_; have HB := n1_; clear n0_ n1_; (try clear hb); (try clear hb2); (try clear hk); (try clear hi)) | ((with_reducible refine gate_callee (f := 25) rfl ?_); refine goesL_ (some 67) rfl rfl Try.func25 (by kernel_rfl) rfl #[.slice Ao54 t103.length co54, .int .i64 t109] rfl (by (try simp only [List.map_toArray, List.map_cons, List.map_nil]); first | done | rfl | (simp only [List.length_drop, List.length_take]; rfl)) ?_; (with_reducible refine (index_Word.calls kj4 _ _ t103 t109 t113 t114 _ ?side1 ?side2 A21.out).mono ?_); (case side1 => repeat (first | exact (Kd.V_reads' HO105.out).2.2 | (with_reducible refine Kd.C_alloc ?_ _) | (with_reducible refine Kd.C_drewN ?_ _) | (with_reducible refine Kd.C_drew ?_))); (case side2 => exact (Kd.V_reads' HO105.out).2.1); rintro e w57 ⟨rfl, hb⟩; refine ⟨_, rfl, ?_⟩; have n0_ := Aside0.mk (Kd.V_below (by (with_reducible repeat (first | apply Kd.V_alloc | apply Kd.V_drewN | apply Kd.V_drew)); exact HO105.out) hb); have n1_ := Aside0.mk (below_step (by repeat (first | (with_reducible first | exact HB.out | apply below_alloc | apply pw_below_drewN | apply below_drew1) | exact HB.out)) hb); clear HO105; clear HB; have HO105 := n0_; have HB := n1_; clear n0_ n1_; (try clear hb); (try clear hb2); (try clear hk); (try clear hi)))
                        go_ret
                        exact ⟨by first | rfl | (simp [errW_none, errW_some] <;> rfl) | (simp only [← hji13, ← hji16]; first | rfl | (simp [errW_none, errW_some] <;> rfl)) | (simp [*, errW_none, errW_some] <;> rfl), by repeat (first | (with_reducible first | exact HB.out | apply below_alloc | apply pw_below_drewN | apply below_drew1) | exact HB.out)⟩
                    · replace c22 := Bool.eq_false_iff.mpr c22
                      subst c22
                      have H1 : (some false) = some r := by rw [if_neg (show ¬ (false = true) by decide)] at H; exact H
                      clear H
                      have H := H1
                      clear H1
                      obtain rfl := Option.some.inj H
                      go_wp2_with (first | ((with_reducible refine gate_callee (f := 20) rfl ?_); refine goesL_ (some 30) rfl rfl Try.func20 (by kernel_rfl) rfl #[.slice A0 l0.length c0] rfl (by (try simp only [List.map_toArray, List.map_cons, List.map_nil]); first | done | rfl | (simp only [List.length_drop, List.length_take]; rfl)) ?_; (with_reducible refine (manteletref14_Build.calls _ _ l0 t103 t106 _ ?side1 ?side2 A10.out).mono ?_); (case side1 => repeat (first | exact (Kd.C_below HR0.out HB.out) | (with_reducible refine Kd.C_alloc ?_ _) | (with_reducible refine Kd.C_drewN ?_ _) | (with_reducible refine Kd.C_drew ?_))); (case side2 => exact HC0.out); rintro e w58 ⟨v104, rfl, ho0, hb⟩; refine ⟨_, rfl, ?_⟩; have n0_ := Aside0.mk (Kd.V_lower (Kd.V_mono (ok' := fun k_ => True) ho0 (fun k_ hk_ => trivial)) (below_size (by repeat (first | (with_reducible first | exact HB.out | apply below_alloc | apply pw_below_drewN | apply below_drew1) | exact HB.out)))); have n1_ := Aside0.mk (below_step (by repeat (first | (with_reducible first | exact HB.out | apply below_alloc | apply pw_below_drewN | apply below_drew1) | exact HB.out)) hb); clear HB; have HO105 := n0_; have HB := n1_; clear n0_ n1_; (try clear hb); (try clear hb2); (try clear hk); (try clear hi); (try clear ho0); have p107 : 0 ≤ ((ji13) : Int) := of_decide_eq_true (by first | (with_reducible assumption) | assumption); have q107 : (ji13) < (l0.length : Int) := of_decide_eq_true (by first | (with_reducible assumption) | assumption); obtain ⟨ad107, e107, hx107_0⟩ := Kd.at_string HR0.out (ji13) p107 q107; cases e107; replace hx107_0 := (HB.out.cell (World.block_lt_of_cell? w _ hx107_0)).trans hx107_0; replace p107 := eq_true p107; replace q107 := eq_true q107; have p108 : 0 ≤ ((ji16) : Int) := of_decide_eq_true (by first | (with_reducible assumption) | assumption); have q108 : (ji16) < (l0.length : Int) := of_decide_eq_true (by first | (with_reducible assumption) | assumption); obtain ⟨ad108, e108, hx108_0⟩ := Kd.at_string HR0.out (ji16) p108 q108; obtain rfl : ad107 = ad108 := (by injection e108); replace hx108_0 := (HB.out.cell (World.block_lt_of_cell? w _ hx108_0)).trans hx108_0; replace p108 := eq_true p108; replace q108 := eq_true q108; obtain ⟨Ao59, co59, eo59⟩ := Kd.V_slice HO105.out; subst eo59) | ((with_reducible refine gate_callee (f := 23) rfl ?_); refine goesL_ (some 55) rfl rfl Try.func23 (by kernel_rfl) rfl #[.slice Ao59 t103.length co59, .string (rdOf ByteArray.empty l0 (ji13))] rfl (by (try simp only [List.map_toArray, List.map_cons, List.map_nil]); first | done | (simp only [hji13]; rfl) | rfl | (simp only [List.length_drop, List.length_take]; rfl)) ?_; (with_reducible refine (index_Of.calls kj4 _ _ t103 (rdOf ByteArray.empty l0 (ji13)) t109 t110 _ ?side1 ?side2 A19.out).mono ?_); (case side1 => repeat (first | exact (Kd.V_reads' HO105.out).2.2 | (with_reducible refine Kd.C_alloc ?_ _) | (with_reducible refine Kd.C_drewN ?_ _) | (with_reducible refine Kd.C_drew ?_))); (case side2 => exact (Kd.V_reads' HO105.out).2.1); rintro e w60 ⟨rfl, hb⟩; refine ⟨_, rfl, ?_⟩; have n0_ := Aside0.mk (Kd.V_below (by (with_reducible repeat (first | apply Kd.V_alloc | apply Kd.V_drewN | apply Kd.V_drew)); exact HO105.out) hb); have n1_ := Aside0.mk (below_step (by repeat (first | (with_reducible first | exact HB.out | apply below_alloc | apply pw_below_drewN | apply below_drew1) | exact HB.out)) hb); clear HO105; clear HB; have HO105 := n0_; have HB := n1_; clear n0_ n1_; (try clear hb); (try clear hb2); (try clear hk); (try clear hi)) | ((with_reducible refine gate_callee (f := 23) rfl ?_); refine goesL_ (some 61) rfl rfl Try.func23 (by kernel_rfl) rfl #[.slice Ao59 t103.length co59, .string (rdOf ByteArray.empty l0 (ji16))] rfl (by (try simp only [List.map_toArray, List.map_cons, List.map_nil]); first | done | (simp only [hji16]; rfl) | rfl | (simp only [List.length_drop, List.length_take]; rfl)) ?_; (with_reducible refine (index_Of.calls kj4 _ _ t103 (rdOf ByteArray.empty l0 (ji16)) t111 t112 _ ?side1 ?side2 A20.out).mono ?_); (case side1 => repeat (first | exact (Kd.V_reads' HO105.out).2.2 | (with_reducible refine Kd.C_alloc ?_ _) | (with_reducible refine Kd.C_drewN ?_ _) | (with_reducible refine Kd.C_drew ?_))); (case side2 => exact (Kd.V_reads' HO105.out).2.1); rintro e w61 ⟨rfl, hb⟩; refine ⟨_, rfl, ?_⟩; have n0_ := Aside0.mk (Kd.V_below (by (with_reducible repeat (first | apply Kd.V_alloc | apply Kd.V_drewN | apply Kd.V_drew)); exact HO105.out) hb); have n1_ := Aside0.mk (below_step (by repeat (first | (with_reducible first | exact HB.out | apply below_alloc | apply pw_below_drewN | apply below_drew1) | exact HB.out)) hb); clear HO105; clear HB; have HO105 := n0_; have HB := n1_; clear n0_ n1_; (try clear hb); (try clear hb2); (try clear hk); (try clear hi)) | ((with_reducible refine gate_callee (f := 25) rfl ?_); refine goesL_ (some 67) rfl rfl Try.func25 (by kernel_rfl) rfl #[.slice Ao59 t103.length co59, .int .i64 t109] rfl (by (try simp only [List.map_toArray, List.map_cons, List.map_nil]); first | done | rfl | (simp only [List.length_drop, List.length_take]; rfl)) ?_; (with_reducible refine (index_Word.calls kj4 _ _ t103 t109 t113 t114 _ ?side1 ?side2 A21.out).mono ?_); (case side1 => repeat (first | exact (Kd.V_reads' HO105.out).2.2 | (with_reducible refine Kd.C_alloc ?_ _) | (with_reducible refine Kd.C_drewN ?_ _) | (with_reducible refine Kd.C_drew ?_))); (case side2 => exact (Kd.V_reads' HO105.out).2.1); rintro e w62 ⟨rfl, hb⟩; refine ⟨_, rfl, ?_⟩; have n0_ := Aside0.mk (Kd.V_below (by (with_reducible repeat (first | apply Kd.V_alloc | apply Kd.V_drewN | apply Kd.V_drew)); exact HO105.out) hb); have n1_ := Aside0.mk (below_step (by repeat (first | (with_reducible first | exact HB.out | apply below_alloc | apply pw_below_drewN | apply below_drew1) | exact HB.out)) hb); clear HO105; clear HB; have HO105 := n0_; have HB := n1_; clear n0_ n1_; (try clear hb); (try clear hb2); (try clear hk); (try clear hi)))
                      go_ret
                      exact ⟨by first | rfl | (simp [errW_none, errW_some] <;> rfl) | (simp only [← hji13, ← hji16]; first | rfl | (simp [errW_none, errW_some] <;> rfl)) | (simp [*, errW_none, errW_some] <;> rfl), by repeat (first | (with_reducible first | exact HB.out | apply below_alloc | apply pw_below_drewN | apply below_drew1) | exact HB.out)⟩
                  · rw [if_neg c18] at H
                    exact absurd H (by simp)
                · rw [if_neg c17] at H
                  exact absurd H (by simp)
              · rw [if_neg c15] at H
                exact absurd H (by simp)
            · rw [if_neg c14] at H
              exact absurd H (by simp)
        · rw [if_neg c11] at H
          have c11b0 : (t106 == 0) = false := beq_eq_false_iff_ne.mpr c11
          have c11b1 : (t106 != 0) = true := bne_iff_ne.mpr c11
          obtain rfl := Option.some.inj H
          go_wp2_with (first | ((with_reducible refine gate_callee (f := 20) rfl ?_); refine goesL_ (some 30) rfl rfl Try.func20 (by kernel_rfl) rfl #[.slice A0 l0.length c0] rfl (by (try simp only [List.map_toArray, List.map_cons, List.map_nil]); first | done | rfl | (simp only [List.length_drop, List.length_take]; rfl)) ?_; (with_reducible refine (manteletref14_Build.calls _ _ l0 t103 t106 _ ?side1 ?side2 A10.out).mono ?_); (case side1 => repeat (first | exact (Kd.C_below HR0.out HB.out) | (with_reducible refine Kd.C_alloc ?_ _) | (with_reducible refine Kd.C_drewN ?_ _) | (with_reducible refine Kd.C_drew ?_))); (case side2 => exact HC0.out); rintro e w63 ⟨v104, rfl, ho0, hb⟩; refine ⟨_, rfl, ?_⟩; have n0_ := Aside0.mk (Kd.V_lower (Kd.V_mono (ok' := fun k_ => True) ho0 (fun k_ hk_ => trivial)) (below_size (by repeat (first | (with_reducible first | exact HB.out | apply below_alloc | apply pw_below_drewN | apply below_drew1) | exact HB.out)))); have n1_ := Aside0.mk (below_step (by repeat (first | (with_reducible first | exact HB.out | apply below_alloc | apply pw_below_drewN | apply below_drew1) | exact HB.out)) hb); clear HB; have HO105 := n0_; have HB := n1_; clear n0_ n1_; (try clear hb); (try clear hb2); (try clear hk); (try clear hi); (try clear ho0)))
          go_ret
          exact ⟨by first | rfl | (simp [errW_none, errW_some] <;> rfl) | (simp [*, errW_none, errW_some] <;> rfl), by repeat (first | (with_reducible first | exact HB.out | apply below_alloc | apply pw_below_drewN | apply below_drew1) | exact HB.out)⟩

end Go.Proofs.Ytebdcblchjhmpaa.PIndexRises

namespace Go.Proofs.Ytebdcblchjhmpaa.Daw
set_option linter.unusedVariables false
set_option linter.unusedSimpArgs false
/-- The words taken from state i on. -/
def wl (b : List DS) (i : Nat) : List (List Nat) := listing b (i + 1) i
theorem listing_fuel {b : List DS} (h : Good b) : ∀ (i k : Nat), i < k → i < b.length → listing b k i = listing b (i + 1) i := by
  intro i
  induction i using Nat.strongRecOn with
  | _ i ih =>
    intro k hk hi
    obtain ⟨k, rfl⟩ : ∃ q, k = q + 1 := ⟨k - 1, by omega⟩
    have e0 : b[i]? = some b[i] := List.getElem?_eq_getElem hi
    have hrow := (h.2 i _ e0).1
    unfold listing
    rw [e0]
    simp only
    congr 1
    have : ∀ es : List DE, (∀ e ∈ es, e.2 < i) → (es.flatMap fun e => (listing b k e.2).map (e.1 :: ·)) = es.flatMap fun e => (listing b i e.2).map (e.1 :: ·) := by
      intro es hes
      induction es with
      | nil => rfl
      | cons e r ihr =>
        have he := hes e (by simp)
        rw [List.flatMap_cons, List.flatMap_cons, ihr (fun f hf => hes f (by simp [hf])), ih e.2 he k (by omega) (by omega), ih e.2 he i (by omega) (by omega)]
    exact this _ (fun e he => hrow.1 e he)
theorem wl_eq {b : List DS} (h : Good b) {i : Nat} (hi : i < b.length) : wl b i = (if b[i].1 = true then [[]] else []) ++ b[i].2.flatMap fun e => (wl b e.2).map (e.1 :: ·) := by
  have e0 : b[i]? = some b[i] := List.getElem?_eq_getElem hi
  have hrow := (h.2 i _ e0).1
  show listing b (i + 1) i = _
  unfold listing
  rw [e0]
  simp only
  congr 1
  have : ∀ es : List DE, (∀ e ∈ es, e.2 < i) → (es.flatMap fun e => (listing b i e.2).map (e.1 :: ·)) = es.flatMap fun e => (wl b e.2).map (e.1 :: ·) := by
    intro es hes
    induction es with
    | nil => rfl
    | cons e r ihr =>
      have he := hes e (by simp)
      rw [List.flatMap_cons, List.flatMap_cons, ihr (fun f hf => hes f (by simp [hf])), listing_fuel h e.2 i he (by omega)]
      rfl
  exact this _ (fun e he => hrow.1 e he)
theorem mem_wl {b : List DS} (h : Good b) {i : Nat} (hi : i < b.length) (v : List Nat) : v ∈ wl b i ↔ acc b i v = true := mem_listing h (i + 1) i (by omega) hi v
theorem wl_sorted {b : List DS} (h : Good b) (i : Nat) : (wl b i).Pairwise (· < ·) := sorted_listing h _ i
/-- How many words are taken from a state on. -/
def cnt (b : List DS) (i : Nat) : Nat := (wl b i).length
def own (s : DS) : Nat := if s.1 = true then 1 else 0
theorem len_flat (f : DE → List (List Nat)) : ∀ es : List DE, (es.flatMap fun e => (f e).map (e.1 :: ·)).length = (es.map fun e => (f e).length).sum
  | [] => rfl
  | e :: r => by rw [List.flatMap_cons, List.length_append, List.length_map, len_flat f r]; simp
theorem cnt_eq {b : List DS} (h : Good b) {i : Nat} (hi : i < b.length) : cnt b i = own b[i] + (b[i].2.map fun e => cnt b e.2).sum := by
  unfold cnt
  rw [wl_eq h hi, List.length_append, len_flat]
  congr 1
  unfold own
  split <;> rfl
theorem cnt_root (l : List (List Nat)) (hs : ([] :: l).Pairwise (· < ·)) (hl : l ≠ []) : wl (build l) ((build l).length - 1) = l := by
  have h1 := (build_least l hs hl).2.2.1
  exact build_lists l hs hl _ (by omega)
/-- From each state on what is taken is the rest of a word. -/
theorem build_reach (l : List (List Nat)) (hs : ([] :: l).Pairwise (· < ·)) (hl : l ≠ []) : Good (build l) ∧ ∀ j, j < (build l).length → ∃ u : List Nat, ∀ v, acc (build l) j v = true → (u ++ v) ∈ l := by
  have h := adds_ok l start 0 start_ok hs
  have hlang := adds_lang l start 0 start_ok hs
  have hreach := adds_reach l start 0 start_ok hs (fun j hj => absurd hj (by simp [start]))
  obtain ⟨s, r, hp, hrl, hse, hsf, hP⟩ := h.path
  have hrow : Row (l.foldl add start).left.length s := ⟨by simp [hse], by rw [hse]; trivial⟩
  obtain ⟨s', r', q1, q2, q3, q4, q5, q6, q7, q8, q9⟩ := leave_ok (l.foldl add start).word 0 r.length _ s r rfl (Nat.zero_le _) h.good hrow (fun h0 => Or.inl (hsf h0)) hP (by omega)
  have hlr := leave_reach (l.foldl add start).word 0 (lang (l.foldl add start).left (l.foldl add start).word (l.foldl add start).path) r.length _ s r rfl h.good hrow (fun h0 => Or.inl (hsf h0)) hP hreach (fun v hv => by rw [hp]; exact hv)
  rw [← hp] at q1 q3 q4 q5 q6 q8 q9 hlr
  have hlangl : ∀ v, lang (l.foldl add start).left (l.foldl add start).word (l.foldl add start).path v = decide (v ∈ l) := by
    intro v
    have h0 : lang start.left start.word start.path v = false := by cases v <;> simp [start, lang, PL, accS, fnd]
    rw [hlang v, h0, Bool.false_or]
  obtain ⟨a, t, hb, hg, hacc⟩ := build_takes l hs hl
  have hb2 : build l = (num (leave (l.foldl add start).word 0 (l.foldl add start).left (l.foldl add start).path).1 s').1 := by
    unfold build finish
    rw [q1]
  refine ⟨by rw [hb]; exact hg, fun j hj => ?_⟩
  by_cases hja : j = a.length
  · subst hja
    exact ⟨[], fun v hv => by rw [hacc] at hv; simpa using hv⟩
  · have hjl : j < (leave (l.foldl add start).word 0 (l.foldl add start).left (l.foldl add start).path).1.length := by
      have h1 : (build l).length ≤ (leave (l.foldl add start).word 0 (l.foldl add start).left (l.foldl add start).path).1.length + 1 := by
        rw [hb2]; unfold num; split
        · exact Nat.le_succ _
        · simp
      have h2 : (build l).length = a.length + 1 := by rw [hb]; simp
      omega
    obtain ⟨u, _, hv⟩ := hlr j hjl
    refine ⟨u, fun v h1 => ?_⟩
    have e : acc (build l) j v = acc (leave (l.foldl add start).word 0 (l.foldl add start).left (l.foldl add start).path).1 j v := by
      rw [hb2]; unfold num; split
      · rfl
      · exact acc_ext q3 v j hjl
    rw [e] at h1
    have h2 := hv v h1
    rw [hlangl] at h2
    exact of_decide_eq_true h2
theorem nodup_len : ∀ (x y : List (List Nat)), x.Nodup → (∀ v ∈ x, v ∈ y) → x.length ≤ y.length
  | [], y, _, _ => Nat.zero_le _
  | a :: x, y, hn, h => by
    rw [List.nodup_cons] at hn
    have ha := h a (by simp)
    have := nodup_len x (y.erase a) hn.2 (fun v hv => (List.mem_erase_of_ne (fun e => hn.1 (by rw [← e]; exact hv))).2 (h v (by simp [hv])))
    rw [List.length_erase_of_mem ha] at this
    have := List.length_pos_of_mem ha
    simp only [List.length_cons]; omega
/-- No state takes more words than there are. -/
theorem cnt_le (l : List (List Nat)) (hs : ([] :: l).Pairwise (· < ·)) (hl : l ≠ []) {j : Nat} (hj : j < (build l).length) : cnt (build l) j ≤ l.length := by
  obtain ⟨hg, hr⟩ := build_reach l hs hl
  obtain ⟨u, hu⟩ := hr j hj
  have h1 : ((wl (build l) j).map (u ++ ·)).Nodup := by
    unfold List.Nodup
    rw [List.pairwise_map]
    refine (wl_sorted hg j).imp (fun {a b} hab e => ?_)
    have : a = b := List.append_cancel_left e
    subst this
    exact List.lt_irrefl a hab
  have := nodup_len _ l h1 (fun v hv => by
    obtain ⟨x, hx, rfl⟩ := List.mem_map.1 hv
    exact hu x ((mem_wl hg hj x).1 hx))
  rw [List.length_map] at this
  exact this
theorem fnd_split {s : DS} (hr : Rising s.2) {c : Nat} {e : DE} (h : fnd s c = some e) : ∃ pre post, s.2 = pre ++ e :: post ∧ e.1 = c ∧ (∀ f ∈ pre, f.1 < c) ∧ (∀ f ∈ post, c < f.1) := by
  unfold fnd at h
  obtain ⟨b, l⟩ := s
  simp only at hr h ⊢
  induction l with
  | nil => simp at h
  | cons a r ih =>
    rw [List.find?_cons] at h
    by_cases hc : (a.1 == c) = true
    · rw [hc] at h
      have e1 : a = e := by simpa using h
      subst e1
      have hac : a.1 = c := by simpa using hc
      exact ⟨[], r, rfl, hac, by simp, fun f hf => by rw [← hac]; exact hr.1 f hf⟩
    · have hc' : (a.1 == c) = false := by simpa using hc
      rw [hc'] at h
      obtain ⟨pre, post, h1, h2, h3, h4⟩ := ih hr.2 h
      refine ⟨a :: pre, post, by rw [h1]; rfl, h2, fun f hf => ?_, h4⟩
      rcases List.mem_cons.1 hf with rfl | hf
      · have : f.1 < e.1 := hr.1 e (by rw [h1]; simp)
        omega
      · exact h3 f hf
theorem idx_skip {α : Type} [BEq α] [LawfulBEq α] (x y : List α) (v : α) (h : v ∉ x) : (x ++ y).idxOf v = x.length + y.idxOf v := by
  rw [List.idxOf_append, if_neg h]
  omega
theorem idx_cons (c : Nat) (x : List (List Nat)) (v : List Nat) : (x.map (c :: ·)).idxOf (c :: v) = x.idxOf v := by
  induction x with
  | nil => rfl
  | cons a r ih =>
    rw [List.map_cons, List.idxOf_cons, List.idxOf_cons, ih]
    by_cases h : a = v
    · subst h; simp
    · have h1 : (a == v) = false := by simpa using h
      have h2 : ((c :: a) == (c :: v)) = false := by simpa using h
      rw [h1, h2]
/-- The place of a word behind byte c: what the state takes by itself, what lower bytes lead to, and its place there. -/
theorem place_cons {b : List DS} (h : Good b) {i : Nat} (hi : i < b.length) {c : Nat} {v : List Nat} {e : DE} {pre post : List DE} (hs : b[i].2 = pre ++ e :: post) (he : e.1 = c) (hpre : ∀ f ∈ pre, f.1 < c) (hv : v ∈ wl b e.2) :
    (wl b i).idxOf (c :: v) = own b[i] + (pre.map fun f => cnt b f.2).sum + (wl b e.2).idxOf v := by
  rw [wl_eq h hi, hs, List.flatMap_append, List.flatMap_cons]
  have h1 : (c :: v) ∉ (if b[i].1 = true then [[]] else [] : List (List Nat)) := by split <;> simp
  have h2 : (c :: v) ∉ pre.flatMap fun e => (wl b e.2).map (e.1 :: ·) := by
    intro hm
    obtain ⟨f, hf, hm⟩ := List.mem_flatMap.1 hm
    obtain ⟨u, _, hu⟩ := List.mem_map.1 hm
    have := hpre f hf
    injection hu with hu _
    omega
  have h3 : (c :: v) ∈ (wl b e.2).map (e.1 :: ·) := List.mem_map.2 ⟨v, hv, by rw [he]⟩
  rw [idx_skip _ _ _ h1, idx_skip _ _ _ h2, List.idxOf_append, if_pos h3, he, idx_cons, len_flat]
  have : (if b[i].1 = true then [[]] else [] : List (List Nat)).length = own b[i] := by unfold own; split <;> rfl
  rw [this]
  unfold cnt
  omega
theorem place_nil {b : List DS} (h : Good b) {i : Nat} (hi : i < b.length) (hv : [] ∈ wl b i) : (wl b i).idxOf [] = 0 := by
  rw [mem_wl h hi, acc_at (s := b[i]) (List.getElem?_eq_getElem hi)] at hv
  rw [wl_eq h hi, if_pos (show b[i].1 = true from hv)]
  rfl
end Go.Proofs.Ytebdcblchjhmpaa.Daw

namespace Go.Proofs.Ytebdcblchjhmpaa.K
open Go.RowKit Go.Proofs.YtebdcblchjhmpaaW.PrintWords Go.Proofs.YtebdcblchjhmpaaW.PrintLast Go.Proofs.YtebdcblchjhmpaaW.PrintMore Go.Proofs.Ytebdcblchjhmpaa
attribute [local go_sem] max2_int min2_int max_two min_two max_three min_three max_four min_four
set_option linter.unusedVariables false
set_option linter.unusedSimpArgs false
open Go.Proofs.Ytebdcblchjhmpaa.PDk Go.Proofs.Ytebdcblchjhmpaa.PDm Go.Proofs.Ytebdcblchjhmpaa.PIx Go.Proofs.Ytebdcblchjhmpaa.Daw
theorem u64_small {x : Int} (h0 : 0 ≤ x) (h1 : x < 18446744073709551616) : IntKind.u64.wrap x = x := by
  simp only [IntKind.wrap, IntKind.bits, IntKind.signed]
  simp
  omega
theorem wx {x : Int} (h0 : -9223372036854775808 ≤ x) (h1 : x < 9223372036854775808) : Go.RowKit.wrap64 x = x := by unfold Go.RowKit.wrap64; omega
theorem rdS31 (l : List S31) (i : Nat) (h : i < l.length) : rd_T31 l (i : Int) = l[i] := by
  unfold rd_T31
  rw [Int.toNat_natCast, List.getD_eq_getElem?_getD, List.getElem?_eq_getElem h]; rfl
theorem rdS33 (l : List S33) (i : Nat) (h : i < l.length) : rd_T33 l (i : Int) = l[i] := by
  unfold rd_T33
  rw [Int.toNat_natCast, List.getD_eq_getElem?_getD, List.getElem?_eq_getElem h]; rfl
theorem own_f (s : DS) : index_own.f (toS s).f0 (toS s).f1 = some ((own s : Nat) : Int) := by
  unfold index_own.f own
  show (if s.1 = true then _ else _) = _
  split <;> simp_all
theorem add_f {a b : Nat} (h : a + b ≤ 4611686018427387904) : num_Add.f (a : Int) (b : Int) = some (((a + b : Nat) : Int), true) := by
  unfold num_Add.f
  rw [if_neg (by omega), u64_small (x := 4611686018427387904 - (a : Int)) (by omega) (by omega), if_neg (by omega), u64_small (by omega) (by omega)]
  simp
/-- What is known of an automaton: edges lead lower; the counts. -/
structure Cnt (b : List DS) (cs : Nat → Nat) : Prop where
  low : ∀ i (h : i < b.length), ∀ e ∈ b[i].2, e.2 < i
  eq : ∀ i (h : i < b.length), cs i = own b[i] + (b[i].2.map fun e => cs e.2).sum
  le : ∀ i, i < b.length → cs i ≤ 4611686018427387904
  few : ∀ i (h : i < b.length), b[i].2.length ≤ 8796093022208
  len : b.length ≤ 4398046511104
def csL (cs : Nat → Nat) (n : Nat) : List Int := (List.range n).map fun i => (cs i : Int)
theorem csL_len (cs : Nat → Nat) (n : Nat) : (csL cs n).length = n := by simp [csL]
theorem csL_succ (cs : Nat → Nat) (n : Nat) : csL cs (n + 1) = csL cs n ++ [(cs n : Int)] := by unfold csL; rw [List.range_succ]; simp
theorem rd_csL (cs : Nat → Nat) (n m i : Nat) (h : i < n) : rd (csL cs n ++ List.replicate m 0) (i : Int) = (cs i : Int) := by
  rw [rd_nat, List.getD_eq_getElem?_getD, List.getElem?_append_left (by rw [csL_len]; exact h)]
  unfold csL
  rw [List.getElem?_map, List.getElem?_range h]
  rfl
theorem sum_take_le (f : DE → Nat) (es : List DE) (j : Nat) : ((es.take j).map f).sum ≤ (es.map f).sum := by
  have e : es = es.take j ++ es.drop j := (List.take_append_drop j es).symm
  conv => rhs; rw [e]
  rw [List.map_append, List.sum_append]; omega
theorem sum_take_succ (f : DE → Nat) (es : List DE) (j : Nat) (h : j < es.length) : ((es.take (j + 1)).map f).sum = ((es.take j).map f).sum + f es[j] := by
  rw [List.take_succ_eq_append_getElem h, List.map_append, List.sum_append]; simp
section
variable {b : List DS} {cs : Nat → Nat}
theorem toS_get (i : Nat) (h : i < b.length) : (b.map toS)[i]'(by rw [List.length_map]; exact h) = toS b[i] := List.getElem_map ..
theorem counts_l1 (h : Cnt b cs) (i : Nat) (hi : i < b.length) {r : List Int × Int} (hn : Ev (fun k => index_Counts.l0 k (b.map toS) (csL cs (i + 1) ++ List.replicate (b.length - (i + 1)) 0) (b.length : Int) ((i + 1 : Nat) : Int)) r) :
    ∀ (d j : Nat), j + d = b[i].2.length → Ev (fun k => index_Counts.l1 k (b.map toS) (csL cs i ++ List.replicate (b.length - i) 0) (i : Int) ((own b[i] + ((b[i].2.take j).map fun e => cs e.2).sum : Nat) : Int) (b.length : Int) (i : Int) (toS b[i]).f1 ((toS b[i]).f1.length : Int) (j : Int)) r
  | 0, j, hd => by
    have hl := h.len
    have hj : b[i].2.take j = b[i].2 := List.take_of_length_le (by omega)
    have he : (toS b[i]).f1.length = b[i].2.length := by simp [toS]
    rw [hj, ← h.eq i hi]
    refine Ev.step (fun k => ?_) hn
    simp only [index_Counts.l1]
    rw [if_neg (by omega), if_pos (by omega), if_pos (by rw [List.length_append, csL_len, List.length_replicate]; omega), wx (by omega) (by omega), Int.toNat_natCast]
    have hset : (csL cs i ++ List.replicate (b.length - i) 0).set i (cs i : Int) = csL cs (i + 1) ++ List.replicate (b.length - (i + 1)) 0 := by
      rw [csL_succ, List.set_append_right _ _ (by rw [csL_len]; exact Nat.le_refl _), csL_len, Nat.sub_self, show b.length - i = (b.length - (i + 1)) + 1 from by omega, List.replicate_succ, List.set_cons_zero, List.append_assoc]
      rfl
    rw [hset, show ((i : Int) + 1) = ((i + 1 : Nat) : Int) from by omega]
  | d + 1, j, hd => by
    have hl := h.len
    have hf := h.few i hi
    have ih := counts_l1 h i hi hn d (j + 1) (by omega)
    have hj : j < b[i].2.length := by omega
    have he : (toS b[i]).f1.length = b[i].2.length := by simp [toS]
    have hlow := h.low i hi _ (List.getElem_mem hj)
    have hle := h.le i hi
    have heq := h.eq i hi
    have s1 := sum_take_le (fun e => cs e.2) b[i].2 (j + 1)
    have s2 := sum_take_succ (fun e => cs e.2) b[i].2 j hj
    have hg : ((toS b[i]).f1[j]'(by omega)).f1 = ((b[i].2[j].2 : Nat) : Int) := by simp [toS, toE]
    refine Ev.step (fun k => ?_) ih
    simp only [index_Counts.l1]
    rw [if_pos (by omega), if_pos (by omega), if_pos (by omega), rdS33 _ j (by omega), hg, if_pos (by omega), if_pos (by rw [List.length_append, csL_len, List.length_replicate]; omega), rd_csL _ _ _ _ hlow, add_f (by omega), Option.bind_some, if_pos rfl, wx (x := (j : Int) + 1) (by omega) (by omega)]
    rw [s2, show ((j : Int) + 1) = ((j + 1 : Nat) : Int) from by omega, Nat.add_assoc]
theorem counts_l0 (h : Cnt b cs) : ∀ (d i : Nat), i + d = b.length → Ev (fun k => index_Counts.l0 k (b.map toS) (csL cs i ++ List.replicate (b.length - i) 0) (b.length : Int) (i : Int)) (csL cs b.length, 0)
  | 0, i, hd => by
    have : i = b.length := by omega
    subst this
    refine Ev.step (f := fun _ => some (csL cs b.length, 0)) (fun k => ?_) (Ev.now _)
    simp only [index_Counts.l0]
    rw [if_neg (by omega), Nat.sub_self]
    simp
  | d + 1, i, hd => by
    have hi : i < b.length := by omega
    have ih := counts_l0 h d (i + 1) (by omega)
    have h1 := counts_l1 h i hi ih b[i].2.length 0 (by omega)
    refine Ev.step (fun k => ?_) h1
    simp only [index_Counts.l0]
    rw [if_pos (by omega), if_pos (by omega), if_pos (by rw [List.length_map]; omega), rdS31 _ i (by rw [List.length_map]; exact hi), toS_get i hi, own_f, Option.bind_some]
    simp
theorem counts_ev (h : Cnt b cs) (hm : daw_May.f (b.map toS) = some true) : Ev (fun k => index_Counts.f k (b.map toS)) (csL cs b.length, 0) := by
  have hl := h.len
  refine Ev.congr (fun k => ?_) (counts_l0 h b.length 0 (by omega))
  unfold index_Counts.f
  rw [hm, Option.bind_some, if_pos rfl, List.length_map, if_pos (by omega), Int.toNat_natCast, if_pos (by omega)]
  simp [csL]
end
end Go.Proofs.Ytebdcblchjhmpaa.K

