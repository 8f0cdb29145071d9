/- IndexSums. (The texts that the proof is made of, one behind the other: part 11 of 12.) -/
import Derived.Test.YtebdcblchjhmpaaProg
import Derived.Below
import Derived.Deep.Draws
import Derived.Deep.AppendLies
import Derived.Maps.AppendAt
import Derived.OwnWalk
import Derived.Laws.BytesArg
import Derived.Laws.MakeOwn
import Derived.Laws.OwnMore
import Derived.Deep.OwnRows
import Derived.Tactics
import Derived.Lib.ConvBytes
import Derived.Laws.Slices
import Derived.WalkKit
import Derived.KernelRfl
import Derived.RowKit3
import Derived.Deep.LoopGhost
import Derived.Deep.QuietTactic
import Derived.BigQuiet
import Derived.WideLaws
import Derived.Deep.DeepCutAuto
import Derived.Deep.CutBlock
import Derived.Deep.RegionHeld3
import Derived.Laws.Rows
import Derived.Lib.AppendStr
import Derived.ArgAppend
import Derived.Laws.IdiomCopy
import Derived.OrdersHeld
import Derived.Laws.BitsLemmas
import Derived.RowKit
import Derived.Lib.OthersKept
import Derived.WalkSmall
import Derived.Deep.RegionLaw
import Derived.BigRegion
import Derived.Test.YtebdcblchjhmpaaZIndexSumsa
import Derived.Test.YtebdcblchjhmpaaZIndexSumsb
import Derived.Test.YtebdcblchjhmpaaZIndexSumsc
import Derived.Test.YtebdcblchjhmpaaZIndexSumsd
import Derived.Test.YtebdcblchjhmpaaZIndexSumse
import Derived.Test.YtebdcblchjhmpaaZIndexSumsf
import Derived.Test.YtebdcblchjhmpaaZIndexSumsg
import Derived.Test.YtebdcblchjhmpaaZIndexSumsh
import Derived.Test.YtebdcblchjhmpaaZIndexSumsi
import Derived.Test.YtebdcblchjhmpaaZIndexSumsj
namespace Go.Proofs.Ytebdcblchjhmpaa.PIndexSums
open Go.RowKit Go.Proofs.YtebdcblchjhmpaaW.PrintWords Go.Proofs.YtebdcblchjhmpaaW.PrintLast Go.Proofs.YtebdcblchjhmpaaW.PrintMore Go.Proofs.Ytebdcblchjhmpaa.K Go.Proofs.Ytebdcblchjhmpaa.PDk Go.Proofs.Ytebdcblchjhmpaa.PDm Go.Proofs.Ytebdcblchjhmpaa.PIx Go.Proofs.Ytebdcblchjhmpaa.PR14 Go.Proofs.Ytebdcblchjhmpaa.PSh15
attribute [local go_sem] max2_int min2_int max_two min_two max_three min_three max_four min_four   -- for this text's walks alone
set_option linter.unusedVariables false
set_option linter.unusedSimpArgs false

mutual
def manteletlaw15_IndexSums.j0 : Nat → Bool → List (S31) → List Int → Bool → Option (Bool)
  | 0, _, _, _, _ => none
  | k + 1, x3, x4, x6, x37 => if x37 = true then (some false) else (manteletlaw15_IndexSums.l0 k x3 x4 x6 0)
def manteletlaw15_IndexSums.l0 : Nat → Bool → List (S31) → List Int → Int → Option (Bool)
  | 0, _, _, _, _ => none
  | k + 1, x3, x4, x6, x8 => if x8 < (x4.length : Int) then (if 0 ≤ x8 then (if (rd_T31 x4 x8).f0 = true then (manteletlaw15_IndexSums.j2 k x3 x4 x6 x8 1) else (manteletlaw15_IndexSums.j2 k x3 x4 x6 x8 0)) else (none)) else (some x3)
def manteletlaw15_IndexSums.j2 : Nat → Bool → List (S31) → List Int → Int → Int → Option (Bool)
  | 0, _, _, _, _, _ => none
  | k + 1, x3, x4, x6, x8, x9 => manteletlaw15_IndexSums.l1 k x3 x4 x6 x8 x9 0
def manteletlaw15_IndexSums.l1 : Nat → Bool → List (S31) → List Int → Int → Int → Int → Option (Bool)
  | 0, _, _, _, _, _, _ => none
  | k + 1, x3, x4, x6, x8, x9, x10 => if 0 ≤ x8 then (if x8 < (x4.length : Int) then (if x10 < (((rd_T31 x4 x8).f1).length : Int) then (if 0 ≤ x10 then (if 0 ≤ ((rd_T33 ((rd_T31 x4 x8).f1) x10).f1) then (if ((rd_T33 ((rd_T31 x4 x8).f1) x10).f1) < (x6.length : Int) then (manteletlaw15_IndexSums.l1 k x3 x4 x6 x8 (IntKind.u64.wrap (x9 + (rd x6 ((rd_T33 ((rd_T31 x4 x8).f1) x10).f1)))) (wrap64 (x10 + 1))) else (none)) else (none)) else (none)) else (if x8 < (x6.length : Int) then (if x9 = (rd x6 x8) then (manteletlaw15_IndexSums.l0 k x3 x4 x6 (wrap64 (x8 + 1))) else (some false)) else (none))) else (none)) else (none)
end
def manteletlaw15_IndexSums.f (k : Nat) (l0 : List ByteArray) : Option (Bool) := (manteletlaw15_shown.f k).bind fun t101 => ((manteletlaw15_few.f k l0).bind fun t102 => (if t102 = true then ((manteletref14_Build.f l0).bind fun bt103 => (if bt103.2 = 0 then ((index_Counts.f k bt103.1).bind fun bt107 => (if bt107.2 = 0 then (manteletlaw15_IndexSums.j0 k t101 bt103.1 bt107.1 ((bt107.1.length : Int) != (bt103.1.length : Int))) else (manteletlaw15_IndexSums.j0 k t101 bt103.1 bt107.1 true))) else (some t101))) else (some t101)))
set_option maxHeartbeats 8000000 in
set_option maxRecDepth 100000 in
theorem manteletlaw15_IndexSums.calls (k : Nat) (A0 : Option Addr) (c0 : Nat) (l0 : List ByteArray) (r : Bool) (w : World) (hr0 : Kd.C Kd.string w A0 l0.length l0) (hc0 : l0.length ≤ c0) (h : manteletlaw15_IndexSums.f k l0 = some r) :
    Calls Try.prog 11 #[.slice A0 l0.length c0] w fun e w' => e = .returned (.bool r) ∧ Below w.heap.size w w' := by
  have HR0 := Aside0.mk hr0
  have HC0 := Aside0.mk hc0
  clear hr0 hc0
  have HB := Aside0.mk (Below.refl w.heap.size w)
  have H : ((manteletlaw15_shown.f k).bind fun t101 => ((manteletlaw15_few.f k l0).bind fun t102 => (if t102 = true then ((manteletref14_Build.f l0).bind fun bt103 => (if bt103.2 = 0 then ((index_Counts.f k bt103.1).bind fun bt107 => (if bt107.2 = 0 then (manteletlaw15_IndexSums.j0 k t101 bt103.1 bt107.1 ((bt107.1.length : Int) != (bt103.1.length : Int))) else (manteletlaw15_IndexSums.j0 k t101 bt103.1 bt107.1 true))) else (some t101))) else (some t101)))) = some r := h
  clear h
  replace H := Option.bind_eq_some_iff.mp H
  obtain ⟨t101, A20, H⟩ := H
  replace H : ((manteletlaw15_few.f k l0).bind fun t102 => (if t102 = true then ((manteletref14_Build.f l0).bind fun bt103 => (if bt103.2 = 0 then ((index_Counts.f k bt103.1).bind fun bt107 => (if bt107.2 = 0 then (manteletlaw15_IndexSums.j0 k t101 bt103.1 bt107.1 ((bt107.1.length : Int) != (bt103.1.length : Int))) else (manteletlaw15_IndexSums.j0 k t101 bt103.1 bt107.1 true))) else (some t101))) else (some t101))) = some r := H
  have A2 := Aside0.mk A20
  clear A20
  replace H := Option.bind_eq_some_iff.mp H
  obtain ⟨t102, A30, H⟩ := H
  replace H : (if t102 = true then ((manteletref14_Build.f l0).bind fun bt103 => (if bt103.2 = 0 then ((index_Counts.f k bt103.1).bind fun bt107 => (if bt107.2 = 0 then (manteletlaw15_IndexSums.j0 k t101 bt103.1 bt107.1 ((bt107.1.length : Int) != (bt103.1.length : Int))) else (manteletlaw15_IndexSums.j0 k t101 bt103.1 bt107.1 true))) else (some t101))) else (some t101)) = some r := H
  have A3 := Aside0.mk A30
  clear A30
  by_cases c4 : t102 = true
  · subst c4
    have H1 : ((manteletref14_Build.f l0).bind fun bt103 => (if bt103.2 = 0 then ((index_Counts.f k bt103.1).bind fun bt107 => (if bt107.2 = 0 then (manteletlaw15_IndexSums.j0 k t101 bt103.1 bt107.1 ((bt107.1.length : Int) != (bt103.1.length : Int))) else (manteletlaw15_IndexSums.j0 k t101 bt103.1 bt107.1 true))) else (some t101))) = some r := by rw [if_pos rfl] at H; exact H
    clear H
    have H := H1
    clear H1
    replace H := Option.bind_eq_some_iff.mp H
    obtain ⟨⟨t103, t106⟩, A50, H⟩ := H
    replace H : (if t106 = 0 then ((index_Counts.f k t103).bind fun bt107 => (if bt107.2 = 0 then (manteletlaw15_IndexSums.j0 k t101 t103 bt107.1 ((bt107.1.length : Int) != (t103.length : Int))) else (manteletlaw15_IndexSums.j0 k t101 t103 bt107.1 true))) else (some t101)) = some r := H
    have A5 := Aside0.mk A50
    clear A50
    by_cases c6 : t106 = 0
    · rw [if_pos c6] at H
      have c6b0 : (t106 == 0) = true := beq_iff_eq.mpr c6
      have c6b1 : (t106 != 0) = false := bne_eq_false_iff_eq.mpr c6
      clear c6
      replace H := Option.bind_eq_some_iff.mp H
      obtain ⟨⟨t107, t108⟩, A70, H⟩ := H
      replace H : (if t108 = 0 then (manteletlaw15_IndexSums.j0 k t101 t103 t107 ((t107.length : Int) != (t103.length : Int))) else (manteletlaw15_IndexSums.j0 k t101 t103 t107 true)) = some r := H
      have A7 := Aside0.mk A70
      clear A70
      have HC8 := Aside0.mk H
      clear H
      go_enter Try.func11, Try.ntmps11
      go_upto_region 8 with (first | ((with_reducible refine gate_callee (f := 18) rfl ?_); refine goesL_ (some 11) rfl rfl Try.func18 (by kernel_rfl) rfl #[] rfl (by (try simp only [List.map_toArray, List.map_cons, List.map_nil]); first | done | rfl | (simp only [List.length_drop, List.length_take]; rfl)) ?_; (with_reducible refine (manteletlaw15_shown.calls k  t101 _ A2.out).mono ?_); rintro e w9 ⟨rfl, hb⟩; refine ⟨_, rfl, ?_⟩; have n0_ := Aside0.mk (below_step (by repeat (first | (with_reducible first | exact HB.out | apply below_alloc | apply pw_below_drewN | apply below_drew1) | exact HB.out)) hb); clear HB; have HB := n0_; clear n0_; (try clear hb); (try clear hb2); (try clear hk); (try clear hi)) | ((with_reducible refine gate_callee (f := 19) rfl ?_); refine goesL_ (some 13) rfl rfl Try.func19 (by kernel_rfl) rfl #[.slice A0 l0.length c0] rfl (by (try simp only [List.map_toArray, List.map_cons, List.map_nil]); first | done | rfl | (simp only [List.length_drop, List.length_take]; rfl)) ?_; (with_reducible refine (manteletlaw15_few.calls k _ _ l0 true _ ?side1 ?side2 A3.out).mono ?_); (case side1 => repeat (first | exact (Kd.C_below HR0.out HB.out) | (with_reducible refine Kd.C_alloc ?_ _) | (with_reducible refine Kd.C_drewN ?_ _) | (with_reducible refine Kd.C_drew ?_))); (case side2 => exact HC0.out); rintro e w' ⟨rfl, ⟨nd, rfl⟩⟩; refine ⟨_, rfl, ?_⟩) | ((with_reducible refine gate_callee (f := 20) rfl ?_); refine goesL_ (some 18) rfl rfl Try.func20 (by kernel_rfl) rfl #[.slice A0 l0.length c0] rfl (by (try simp only [List.map_toArray, List.map_cons, List.map_nil]); first | done | rfl | (simp only [List.length_drop, List.length_take]; rfl)) ?_; (with_reducible refine (manteletref14_Build.calls _ _ l0 t103 t106 _ ?side1 ?side2 A5.out).mono ?_); (case side1 => repeat (first | exact (Kd.C_below HR0.out (by repeat (first | (with_reducible first | exact HB.out | apply below_alloc | apply pw_below_drewN | apply below_drew1) | exact HB.out))) | (with_reducible refine Kd.C_alloc ?_ _) | (with_reducible refine Kd.C_drewN ?_ _) | (with_reducible refine Kd.C_drew ?_))); (case side2 => exact HC0.out); rintro e w10 ⟨v104, rfl, ho0, hb⟩; refine ⟨_, rfl, ?_⟩; have n0_ := Aside0.mk (Kd.V_lower (Kd.V_mono (ok' := fun k_ => True) ho0 (fun k_ hk_ => trivial)) (below_size (by repeat (first | (with_reducible first | exact HB.out | apply below_alloc | apply pw_below_drewN | apply below_drew1) | exact HB.out)))); have n1_ := Aside0.mk (below_step (by repeat (first | (with_reducible first | exact HB.out | apply below_alloc | apply pw_below_drewN | apply below_drew1) | exact HB.out)) hb); clear HB; have HO105 := n0_; have HB := n1_; clear n0_ n1_; (try clear hb); (try clear hb2); (try clear hk); (try clear hi); (try clear ho0); obtain ⟨Ao11, co11, eo11⟩ := Kd.V_slice HO105.out; subst eo11) | ((with_reducible refine gate_callee (f := 21) rfl ?_); refine goesL_ (some 26) rfl rfl Try.func21 (by kernel_rfl) rfl #[.slice Ao11 t103.length co11] rfl (by (try simp only [List.map_toArray, List.map_cons, List.map_nil]); first | done | rfl | (simp only [List.length_drop, List.length_take]; rfl)) ?_; (with_reducible refine (index_Counts.calls k _ _ t103 t107 t108 _ ?side1 ?side2 A7.out).mono ?_); (case side1 => repeat (first | exact (Kd.V_reads' HO105.out).2.2 | (with_reducible refine Kd.C_alloc ?_ _) | (with_reducible refine Kd.C_drewN ?_ _) | (with_reducible refine Kd.C_drew ?_))); (case side2 => exact (Kd.V_reads' HO105.out).2.1); rintro e w12 ⟨v109, rfl, ho0, hb⟩; refine ⟨_, rfl, ?_⟩; have n0_ := Aside0.mk (Kd.V_elder' (by (with_reducible repeat (first | apply Kd.V_alloc | apply Kd.V_drewN | apply Kd.V_drew)); exact HO105.out) (Kd.R_base ho0) hb); have n1_ := Aside0.mk (Kd.R_lower ho0 (below_size (by repeat (first | (with_reducible first | exact HB.out | apply below_alloc | apply pw_below_drewN | apply below_drew1) | exact HB.out)))); have n2_ := Aside0.mk (below_step (by repeat (first | (with_reducible first | exact HB.out | apply below_alloc | apply pw_below_drewN | apply below_drew1) | exact HB.out)) hb); clear HO105; clear HB; have HO105 := n0_; have HO110 := n1_; have HB := n2_; clear n0_ n1_ n2_; (try clear hb); (try clear hb2); (try clear hk); (try clear hi); (try clear ho0)))
      (try simp only [Act.put, List.setIfInBounds_toArray, List.set_cons_zero, List.set_cons_succ])
      go_cut [37] (fun v37 wc => ∃ (kq : Nat) (x37_7 : Bool), v37 = .bool x37_7 ∧ Aside0 (manteletlaw15_IndexSums.j0 kq t101 t103 t107 x37_7 = some r) ∧ Aside0 (kq ≤ k) ∧ Aside0 (Kd.V k31 31 wc w.heap.size (fun k_ => some k_ ≠ (v109 : Value).ownBlock) (.slice Ao11 t103.length co11) t103) ∧ Aside0 (Kd.R (Kd.int .u64) 54 wc w.heap.size (fun _ => True) v109 t107) ∧ Aside0 (Below w.heap.size w wc))
      case first =>
        have H := HC8.out
        clear HC8
        by_cases c13 : t108 = 0
        · rw [if_pos c13] at H
          have c13b0 : (t108 == 0) = true := beq_iff_eq.mpr c13
          have c13b1 : (t108 != 0) = false := bne_eq_false_iff_eq.mpr c13
          clear c13
          (first | rw [c13b0] | (simp only [i64_w, i32_w]; rw [c13b0]) | skip)
          have H' := Aside0.mk H
          clear H
          obtain ⟨Ao14, co14, eo14⟩ := Kd.R_slice HO110.out
          subst eo14
          go_wp2
          go_meet
          case rel => exact ⟨_, (((t107.length : Int) != (t103.length : Int))), (by first | rfl | (simp; done) | (simp [*]; done)), H', ⟨by first | omega | exact Nat.le_refl _⟩, ⟨by (with_reducible repeat (first | apply Kd.V_alloc | apply Kd.V_drewN | apply Kd.V_drew)); exact Kd.V_mono HO105.out (fun _ hk => hk.2)⟩, ⟨by (with_reducible repeat (first | apply Kd.R_alloc | apply Kd.R_drewN | apply Kd.R_drew)); exact HO110.out⟩, ⟨by repeat (first | (with_reducible first | exact HB.out | apply below_alloc | apply pw_below_drewN | apply below_drew1) | exact HB.out)⟩⟩
        · rw [if_neg c13] at H
          have c13b0 : (t108 == 0) = false := beq_eq_false_iff_ne.mpr c13
          have c13b1 : (t108 != 0) = true := bne_iff_ne.mpr c13
          (first | rw [c13b0] | (simp only [i64_w, i32_w]; rw [c13b0]) | skip)
          have H' := Aside0.mk H
          clear H
          go_wp2
          go_meet
          case rel => exact ⟨_, (true), (by first | rfl | (simp; done) | (simp [*]; done)), H', ⟨by first | omega | exact Nat.le_refl _⟩, ⟨by (with_reducible repeat (first | apply Kd.V_alloc | apply Kd.V_drewN | apply Kd.V_drew)); exact Kd.V_mono HO105.out (fun _ hk => hk.2)⟩, ⟨by (with_reducible repeat (first | apply Kd.R_alloc | apply Kd.R_drewN | apply Kd.R_drew)); exact HO110.out⟩, ⟨by repeat (first | (with_reducible first | exact HB.out | apply below_alloc | apply pw_below_drewN | apply below_drew1) | exact HB.out)⟩⟩
      case rest =>
        clear HC8
        try clear c1
        try clear c2
        try clear p2
        try clear c4
        try clear c6
        try clear c6b0
        try clear c6b1
        try clear c11
        try clear c13
        try clear c13b0
        try clear c13b1
        obtain ⟨kq, x37_7, rfl, HA, HJ7, HO_4, HO_6, HB⟩ := hcut
        cases kq with
        | zero => exact absurd HA.out (by simp [manteletlaw15_IndexSums.j0])
        | succ kj7 =>
          have H := HA.out
          clear HA
          simp only [manteletlaw15_IndexSums.j0] at H
          by_cases c15 : x37_7 = true
          · subst c15
            have H1 : (some false) = some r := by rw [if_pos rfl] at H; exact H
            clear H
            have H := H1
            clear H1
            obtain rfl := Option.some.inj H
            go_wp2
            go_ret
            exact ⟨by first | rfl | (simp [errW_none, errW_some] <;> rfl) | (simp [*, errW_none, errW_some] <;> rfl), by repeat (first | (with_reducible first | exact HB.out | apply below_alloc | apply pw_below_drewN | apply below_drew1) | exact HB.out)⟩
          · replace c15 := Bool.eq_false_iff.mpr c15
            subst c15
            have H1 : (manteletlaw15_IndexSums.l0 kj7 t101 t103 t107 0) = some r := by rw [if_neg (show ¬ (false = true) by decide)] at H; exact H
            clear H
            have H := H1
            clear H1
            have H' := Aside0.mk H
            clear H
            go_wp2
            go_loopg [8] kj7 (fun kq v8 w' => ∃ (x8_2 : Int), v8 = .int .i64 x8_2 ∧ Aside0 (manteletlaw15_IndexSums.l0 kq t101 t103 t107 x8_2 = some r) ∧ Aside0 (kq ≤ kj7) ∧ Aside0 (Kd.V k31 31 w' w.heap.size (fun k_ => some k_ ≠ (v109 : Value).ownBlock) (.slice Ao11 t103.length co11) t103) ∧ Aside0 (Kd.R (Kd.int .u64) 54 w' w.heap.size (fun _ => True) v109 t107) ∧ Aside0 (Below w.heap.size w w'))
            case atStart => exact ⟨(0), (by first | rfl | (simp; done) | (simp [*]; done)), H', ⟨Nat.le_refl _⟩, ⟨by (with_reducible repeat (first | apply Kd.V_alloc | apply Kd.V_drewN | apply Kd.V_drew)); exact HO_4.out⟩, ⟨by (with_reducible repeat (first | apply Kd.R_alloc | apply Kd.R_drewN | apply Kd.R_drew)); exact HO_6.out⟩, ⟨by repeat (first | (with_reducible first | exact HB.out | apply below_alloc | apply pw_below_drewN | apply below_drew1) | exact HB.out)⟩⟩
            case round =>
              clear H'
              try clear c1
              try clear c2
              try clear p2
              try clear c4
              try clear c6
              try clear c6b0
              try clear c6b1
              try clear c11
              try clear c13
              try clear c13b0
              try clear c13b1
              try clear c15
              try clear p2
              obtain ⟨x8_2, rfl, HA, HK2, HO_4, HO_6, HB⟩ := hrel
              cases gk with
              | zero => exact absurd HA.out (by simp [manteletlaw15_IndexSums.l0])
              | succ k2 =>
                have H := HA.out
                clear HA
                simp only [manteletlaw15_IndexSums.l0] at H
                by_cases c16 : x8_2 < (t103.length : Int)
                · rw [if_pos c16] at H
                  have c16b0 : decide (x8_2 < (t103.length : Int)) = true := decide_eq_true c16
                  clear c16
                  by_cases c17 : 0 ≤ x8_2
                  · rw [if_pos c17] at H
                    have c17b0 : decide (0 ≤ x8_2) = true := decide_eq_true c17
                    clear c17
                    have HC18 := Aside0.mk H
                    clear H
                    have p111 : 0 ≤ (x8_2 : Int) := of_decide_eq_true (by first | (with_reducible assumption) | assumption)
                    have q111 : x8_2 < (t103.length : Int) := of_decide_eq_true (by first | (with_reducible assumption) | assumption)
                    obtain ⟨ad111, A111_1, c111_1, e111, hx111_0, hx111_1, hl111_1, hi111_1⟩ := at_T31 (Kd.V_reads' HO_4.out).2.2 x8_2 p111 q111
                    cases e111
                    obtain ⟨ce111, hce111, hMe111, hcc111⟩ := Kd.V_get HO_4.out z31 x8_2 p111 (by first | exact q111 | exact of_decide_eq_true (by first | (with_reducible assumption) | assumption) | (have e_ := (Kd.V_reads' HO_4.out).1; omega))
                    obtain ⟨ua111_1, uc111_1, rfl, ul111_1, ge111_1⟩ := k31_openF hMe111
                    have hv111_1 := hcc111 1 _ rfl
                    rw [add_field _ _ 1 (by omega)] at hv111_1
                    replace hv111_1 := Option.some.inj (hv111_1.symm.trans hx111_1)
                    injection hv111_1 with hva_ hvn_ hvc_
                    rw [hva_] at ge111_1
                    rw [hvc_] at ul111_1
                    have HL111_1 := Aside0.mk (show Kd.V k33 33 _ w.heap.size _ _ ((rd_T31 t103 x8_2).f1) from Kd.V_mk ul111_1 ge111_1)
                    clear hva_ hvn_ hvc_ ge111_1 ul111_1
                    clear hcc111 hce111
                    have HR111_1 := Aside0.mk hi111_1
                    have HC111_1 := Aside0.mk hl111_1
                    clear hi111_1 hl111_1
                    replace p111 := eq_true p111
                    replace q111 := eq_true q111
                    go_upto_if 48 with (fail)
                    go_cut [9] (fun v9 wc => ∃ (kq : Nat) (x9_17 : Int), v9 = .int .u64 x9_17 ∧ Aside0 (manteletlaw15_IndexSums.j2 kq t101 t103 t107 x8_2 x9_17 = some r) ∧ Aside0 (kq ≤ k2) ∧ Aside0 (Kd.V k31 31 wc w.heap.size (fun k_ => some k_ ≠ (v109 : Value).ownBlock) (.slice (some ad111) t103.length co11) t103) ∧ Aside0 (Kd.R (Kd.int .u64) 54 wc w.heap.size (fun _ => True) v109 t107) ∧ Aside0 (Kd.C k33 wc A111_1 ((rd_T31 t103 x8_2).f1).length ((rd_T31 t103 x8_2).f1)) ∧ Aside0 (Below w.heap.size w wc))
                    case first =>
                      have H := HC18.out
                      clear HC18
                      obtain ⟨bq19, hbq19⟩ : ∃ b_ : Bool, b_ = ((rd_T31 t103 x8_2).f0) := ⟨_, rfl⟩
                      replace H : (if bq19 = true then (manteletlaw15_IndexSums.j2 k2 t101 t103 t107 x8_2 1) else (manteletlaw15_IndexSums.j2 k2 t101 t103 t107 x8_2 0)) = some r := by rw [← hbq19] at H; exact H
                      have Nbq19 := Aside0.mk hbq19
                      clear hbq19
                      (try rw [← Nbq19.out])
                      by_cases c20 : bq19 = true
                      · subst c20
                        have H1 : (manteletlaw15_IndexSums.j2 k2 t101 t103 t107 x8_2 1) = some r := by rw [if_pos rfl] at H; exact H
                        clear H
                        have H := H1
                        clear H1
                        have H' := Aside0.mk H
                        clear H
                        go_wp2
                        go_meet
                        case rel => exact ⟨_, (1), (by first | rfl | (simp; done) | (simp [*]; done)), H', ⟨by have := HJ7.out; have := HK2.out; first | omega | exact Nat.le_refl _⟩, ⟨by (with_reducible repeat (first | apply Kd.V_alloc | apply Kd.V_drewN | apply Kd.V_drew)); exact HO_4.out⟩, ⟨by (with_reducible repeat (first | apply Kd.R_alloc | apply Kd.R_drewN | apply Kd.R_drew)); exact HO_6.out⟩, ⟨by repeat (first | (with_reducible exact HR111_1.out) | (with_reducible refine Kd.C_alloc ?_ _) | (with_reducible refine Kd.C_drewN ?_ _) | (with_reducible refine Kd.C_drew ?_) | exact HR111_1.out)⟩, ⟨by repeat (first | (with_reducible first | exact HB.out | apply below_alloc | apply pw_below_drewN | apply below_drew1) | exact HB.out)⟩⟩
                      · replace c20 := Bool.eq_false_iff.mpr c20
                        subst c20
                        have H1 : (manteletlaw15_IndexSums.j2 k2 t101 t103 t107 x8_2 0) = some r := by rw [if_neg (show ¬ (false = true) by decide)] at H; exact H
                        clear H
                        have H := H1
                        clear H1
                        have H' := Aside0.mk H
                        clear H
                        go_wp2
                        go_meet
                        case rel => exact ⟨_, (0), (by first | rfl | (simp; done) | (simp [*]; done)), H', ⟨by have := HJ7.out; have := HK2.out; first | omega | exact Nat.le_refl _⟩, ⟨by (with_reducible repeat (first | apply Kd.V_alloc | apply Kd.V_drewN | apply Kd.V_drew)); exact HO_4.out⟩, ⟨by (with_reducible repeat (first | apply Kd.R_alloc | apply Kd.R_drewN | apply Kd.R_drew)); exact HO_6.out⟩, ⟨by repeat (first | (with_reducible exact HR111_1.out) | (with_reducible refine Kd.C_alloc ?_ _) | (with_reducible refine Kd.C_drewN ?_ _) | (with_reducible refine Kd.C_drew ?_) | exact HR111_1.out)⟩, ⟨by repeat (first | (with_reducible first | exact HB.out | apply below_alloc | apply pw_below_drewN | apply below_drew1) | exact HB.out)⟩⟩
                    case rest =>
                      clear HC18
                      try clear c1
                      try clear p1
                      try clear q1
                      try clear hx1
                      try clear c2
                      try clear p2
                      try clear c4
                      try clear c6
                      try clear c6b0
                      try clear c6b1
                      try clear c11
                      try clear p11
                      try clear q11
                      try clear hx11
                      try clear c13
                      try clear c13b0
                      try clear c13b1
                      try clear c15
                      try clear c16
                      try clear c16b0
                      try clear c17
                      try clear c17b0
                      try clear c18
                      try clear c19
                      try clear q19
                      try clear c20
                      try clear hx111_0
                      try clear hx111_1
                      try clear p111
                      try clear p2
                      try clear q111
                      obtain ⟨kq, x9_17, rfl, HA, HJ17, HO_4, HO_6, HR111_1, HB⟩ := hcut
                      cases kq with
                      | zero => exact absurd HA.out (by simp [manteletlaw15_IndexSums.j2])
                      | succ kj17 =>
                        have H := HA.out
                        clear HA
                        simp only [manteletlaw15_IndexSums.j2] at H
                        have H' := Aside0.mk H
                        clear H
                        go_wp2
                        go_loopg [9, 10] kj17 (fun kq v9 v10 w' => ∃ (x9_4 : Int) (x10_4 : Int), v9 = .int .u64 x9_4 ∧ v10 = .int .i64 x10_4 ∧ Aside0 (manteletlaw15_IndexSums.l1 kq t101 t103 t107 x8_2 x9_4 x10_4 = some r) ∧ Aside0 (kq ≤ kj17) ∧ Aside0 (Kd.V k31 31 w' w.heap.size (fun k_ => some k_ ≠ (v109 : Value).ownBlock) (.slice (some ad111) t103.length co11) t103) ∧ Aside0 (Kd.R (Kd.int .u64) 54 w' w.heap.size (fun _ => True) v109 t107) ∧ Aside0 (Kd.C k33 w' A111_1 ((rd_T31 t103 x8_2).f1).length ((rd_T31 t103 x8_2).f1)) ∧ Aside0 (Below w.heap.size w w'))
                        case atStart => exact ⟨(x9_17), (0), (by first | rfl | (simp; done) | (simp [*]; done)), (by first | rfl | (simp; done) | (simp [*]; done)), H', ⟨Nat.le_refl _⟩, ⟨by (with_reducible repeat (first | apply Kd.V_alloc | apply Kd.V_drewN | apply Kd.V_drew)); exact HO_4.out⟩, ⟨by (with_reducible repeat (first | apply Kd.R_alloc | apply Kd.R_drewN | apply Kd.R_drew)); exact HO_6.out⟩, ⟨by repeat (first | (with_reducible exact HR111_1.out) | (with_reducible refine Kd.C_alloc ?_ _) | (with_reducible refine Kd.C_drewN ?_ _) | (with_reducible refine Kd.C_drew ?_) | exact HR111_1.out)⟩, ⟨by repeat (first | (with_reducible first | exact HB.out | apply below_alloc | apply pw_below_drewN | apply below_drew1) | exact HB.out)⟩⟩
                        case round =>
                          clear H'
                          try clear c1
                          try clear p1
                          try clear q1
                          try clear hx1
                          try clear c2
                          try clear p2
                          try clear c4
                          try clear c6
                          try clear c6b0
                          try clear c6b1
                          try clear c11
                          try clear p11
                          try clear q11
                          try clear hx11
                          try clear c13
                          try clear c13b0
                          try clear c13b1
                          try clear c15
                          try clear c16
                          try clear c16b0
                          try clear c17
                          try clear c17b0
                          try clear c18
                          try clear c19
                          try clear q19
                          try clear c20
                          try clear hx111_0
                          try clear hx111_1
                          try clear p1
                          try clear p11
                          try clear p111
                          try clear p2
                          try clear q1
                          try clear q11
                          try clear q111
                          try clear q19
                          obtain ⟨x9_4, x10_4, rfl, rfl, HA, HK4, HO_4, HO_6, HR111_1, HB⟩ := hrel
                          cases gk with
                          | zero => exact absurd HA.out (by simp [manteletlaw15_IndexSums.l1])
                          | succ k4 =>
                            have H := HA.out
                            clear HA
                            simp only [manteletlaw15_IndexSums.l1] at H
                            by_cases c21 : 0 ≤ x8_2
                            · rw [if_pos c21] at H
                              have c21b0 : decide (0 ≤ x8_2) = true := decide_eq_true c21
                              clear c21
                              by_cases c22 : x8_2 < (t103.length : Int)
                              · rw [if_pos c22] at H
                                have c22b0 : decide (x8_2 < (t103.length : Int)) = true := decide_eq_true c22
                                clear c22
                                by_cases c23 : x10_4 < (((rd_T31 t103 x8_2).f1).length : Int)
                                · rw [if_pos c23] at H
                                  have c23b0 : decide (x10_4 < (((rd_T31 t103 x8_2).f1).length : Int)) = true := decide_eq_true c23
                                  clear c23
                                  by_cases c24 : 0 ≤ x10_4
                                  · rw [if_pos c24] at H
                                    have c24b0 : decide (0 ≤ x10_4) = true := decide_eq_true c24
                                    clear c24
                                    by_cases c25 : 0 ≤ ((rd_T33 ((rd_T31 t103 x8_2).f1) x10_4).f1)
                                    · rw [if_pos c25] at H
                                      have c25b0 : decide (0 ≤ ((rd_T33 ((rd_T31 t103 x8_2).f1) x10_4).f1)) = true := decide_eq_true c25
                                      clear c25
                                      by_cases c26 : ((rd_T33 ((rd_T31 t103 x8_2).f1) x10_4).f1) < (t107.length : Int)
                                      · rw [if_pos c26] at H
                                        have c26b0 : decide (((rd_T33 ((rd_T31 t103 x8_2).f1) x10_4).f1) < (t107.length : Int)) = true := decide_eq_true c26
                                        clear c26
                                        have H' := Aside0.mk H
                                        clear H
                                        have p112 : 0 ≤ (x8_2 : Int) := of_decide_eq_true (by first | (with_reducible assumption) | assumption)
                                        have q112 : x8_2 < (t103.length : Int) := of_decide_eq_true (by first | (with_reducible assumption) | assumption)
                                        obtain ⟨ad112, A112_1, c112_1, e112, hx112_0, hx112_1, hl112_1, hi112_1⟩ := at_T31 (Kd.V_reads' HO_4.out).2.2 x8_2 p112 q112
                                        obtain rfl : ad111 = ad112 := (by injection e112)
                                        obtain ⟨ce112, hce112, hMe112, hcc112⟩ := Kd.V_get HO_4.out z31 x8_2 p112 (by first | exact q112 | exact of_decide_eq_true (by first | (with_reducible assumption) | assumption) | (have e_ := (Kd.V_reads' HO_4.out).1; omega))
                                        obtain ⟨ua112_1, uc112_1, rfl, ul112_1, ge112_1⟩ := k31_openF hMe112
                                        have hv112_1 := hcc112 1 _ rfl
                                        rw [add_field _ _ 1 (by omega)] at hv112_1
                                        replace hv112_1 := Option.some.inj (hv112_1.symm.trans hx112_1)
                                        injection hv112_1 with hva_ hvn_ hvc_
                                        rw [hva_] at ge112_1
                                        rw [hvc_] at ul112_1
                                        have HL112_1 := Aside0.mk (show Kd.V k33 33 _ w.heap.size _ _ ((rd_T31 t103 x8_2).f1) from Kd.V_mk ul112_1 ge112_1)
                                        clear hva_ hvn_ hvc_ ge112_1 ul112_1
                                        clear hcc112 hce112
                                        have HR112_1 := Aside0.mk hi112_1
                                        have HC112_1 := Aside0.mk hl112_1
                                        clear hi112_1 hl112_1
                                        replace p112 := eq_true p112
                                        replace q112 := eq_true q112
                                        have p113 : 0 ≤ (x8_2 : Int) := of_decide_eq_true (by first | (with_reducible assumption) | assumption)
                                        have q113 : x8_2 < (t103.length : Int) := of_decide_eq_true (by first | (with_reducible assumption) | assumption)
                                        obtain ⟨ad113, A113_1, c113_1, e113, hx113_0, hx113_1, hl113_1, hi113_1⟩ := at_T31 (Kd.V_reads' HO_4.out).2.2 x8_2 p113 q113
                                        obtain rfl : ad111 = ad113 := (by injection e113)
                                        obtain ⟨ce113, hce113, hMe113, hcc113⟩ := Kd.V_get HO_4.out z31 x8_2 p113 (by first | exact q113 | exact of_decide_eq_true (by first | (with_reducible assumption) | assumption) | (have e_ := (Kd.V_reads' HO_4.out).1; omega))
                                        obtain ⟨ua113_1, uc113_1, rfl, ul113_1, ge113_1⟩ := k31_openF hMe113
                                        have hv113_1 := hcc113 1 _ rfl
                                        rw [add_field _ _ 1 (by omega)] at hv113_1
                                        replace hv113_1 := Option.some.inj (hv113_1.symm.trans hx113_1)
                                        injection hv113_1 with hva_ hvn_ hvc_
                                        rw [hva_] at ge113_1
                                        rw [hvc_] at ul113_1
                                        have HL113_1 := Aside0.mk (show Kd.V k33 33 _ w.heap.size _ _ ((rd_T31 t103 x8_2).f1) from Kd.V_mk ul113_1 ge113_1)
                                        clear hva_ hvn_ hvc_ ge113_1 ul113_1
                                        clear hcc113 hce113
                                        have HR113_1 := Aside0.mk hi113_1
                                        have HC113_1 := Aside0.mk hl113_1
                                        clear hi113_1 hl113_1
                                        replace p113 := eq_true p113
                                        replace q113 := eq_true q113
                                        have ea_ := Option.some.inj (hx112_1.symm.trans hx113_1)
                                        injection ea_ with ea_ en_ ec_
                                        subst ea_
                                        subst ec_
                                        clear en_
                                        have p114 : 0 ≤ (x10_4 : Int) := of_decide_eq_true (by first | (with_reducible assumption) | assumption)
                                        have q114 : x10_4 < (((rd_T31 t103 x8_2).f1).length : Int) := of_decide_eq_true (by first | (with_reducible assumption) | assumption)
                                        obtain ⟨ad114, e114, hx114_0, hx114_1⟩ := at_T33 (by repeat (first | (with_reducible exact HR113_1.out) | (with_reducible refine Kd.C_alloc ?_ _) | (with_reducible refine Kd.C_drewN ?_ _) | (with_reducible refine Kd.C_drew ?_) | exact HR113_1.out)) x10_4 p114 q114
                                        cases e114
                                        replace p114 := eq_true p114
                                        replace q114 := eq_true q114
                                        obtain ⟨Ao27, co27, eo27⟩ := Kd.R_slice HO_6.out
                                        subst eo27
                                        have p115 : 0 ≤ (((rd_T33 ((rd_T31 t103 x8_2).f1) x10_4).f1) : Int) := of_decide_eq_true (by first | (with_reducible assumption) | assumption)
                                        have q115 : ((rd_T33 ((rd_T31 t103 x8_2).f1) x10_4).f1) < (t107.length : Int) := of_decide_eq_true (by first | (with_reducible assumption) | assumption)
                                        obtain ⟨ad115, e115, hx115_0⟩ := Kd.at_int (Kd.R_reads' HO_6.out).2.2 ((rd_T33 ((rd_T31 t103 x8_2).f1) x10_4).f1) p115 q115
                                        cases e115
                                        replace p115 := eq_true p115
                                        replace q115 := eq_true q115
                                        go_wp2
                                        go_roundg k4
                                        case measure => have := HJ7.out; have := HK2.out; have := HJ17.out; have := HK4.out; omega
                                        case rel => exact ⟨(IntKind.u64.wrap (x9_4 + (rd t107 ((rd_T33 ((rd_T31 t103 x8_2).f1) x10_4).f1)))), (wrap64 (x10_4 + 1)), (by first | rfl | (simp; done) | (simp [*]; done)), (by first | rfl | (simp; done) | (simp [*]; done)), H', ⟨by have := HJ7.out; have := HK2.out; have := HJ17.out; have := HK4.out; omega⟩, ⟨by (with_reducible repeat (first | apply Kd.V_alloc | apply Kd.V_drewN | apply Kd.V_drew)); exact HO_4.out⟩, ⟨by (with_reducible repeat (first | apply Kd.R_alloc | apply Kd.R_drewN | apply Kd.R_drew)); exact HO_6.out⟩, ⟨by repeat (first | (with_reducible exact HR111_1.out) | (with_reducible refine Kd.C_alloc ?_ _) | (with_reducible refine Kd.C_drewN ?_ _) | (with_reducible refine Kd.C_drew ?_) | exact HR111_1.out)⟩, ⟨by repeat (first | (with_reducible first | exact HB.out | apply below_alloc | apply pw_below_drewN | apply below_drew1) | exact HB.out)⟩⟩
                                      · rw [if_neg c26] at H
                                        exact absurd H (by simp)
                                    · rw [if_neg c25] at H
                                      exact absurd H (by simp)
                                  · rw [if_neg c24] at H
                                    exact absurd H (by simp)
                                · rw [if_neg c23] at H
                                  have c23b0 : decide (x10_4 < (((rd_T31 t103 x8_2).f1).length : Int)) = false := decide_eq_false c23
                                  clear c23
                                  by_cases c28 : x8_2 < (t107.length : Int)
                                  · rw [if_pos c28] at H
                                    have c28b0 : decide (x8_2 < (t107.length : Int)) = true := decide_eq_true c28
                                    clear c28
                                    by_cases c29 : x9_4 = (rd t107 x8_2)
                                    · rw [if_pos c29] at H
                                      have c29b0 : (x9_4 == (rd t107 x8_2)) = true := beq_iff_eq.mpr c29
                                      have c29b1 : (x9_4 != (rd t107 x8_2)) = false := bne_eq_false_iff_eq.mpr c29
                                      clear c29
                                      have H' := Aside0.mk H
                                      clear H
                                      have p112 : 0 ≤ (x8_2 : Int) := of_decide_eq_true (by first | (with_reducible assumption) | assumption)
                                      have q112 : x8_2 < (t103.length : Int) := of_decide_eq_true (by first | (with_reducible assumption) | assumption)
                                      obtain ⟨ad112, A112_1, c112_1, e112, hx112_0, hx112_1, hl112_1, hi112_1⟩ := at_T31 (Kd.V_reads' HO_4.out).2.2 x8_2 p112 q112
                                      obtain rfl : ad111 = ad112 := (by injection e112)
                                      obtain ⟨ce112, hce112, hMe112, hcc112⟩ := Kd.V_get HO_4.out z31 x8_2 p112 (by first | exact q112 | exact of_decide_eq_true (by first | (with_reducible assumption) | assumption) | (have e_ := (Kd.V_reads' HO_4.out).1; omega))
                                      obtain ⟨ua112_1, uc112_1, rfl, ul112_1, ge112_1⟩ := k31_openF hMe112
                                      have hv112_1 := hcc112 1 _ rfl
                                      rw [add_field _ _ 1 (by omega)] at hv112_1
                                      replace hv112_1 := Option.some.inj (hv112_1.symm.trans hx112_1)
                                      injection hv112_1 with hva_ hvn_ hvc_
                                      rw [hva_] at ge112_1
                                      rw [hvc_] at ul112_1
                                      have HL112_1 := Aside0.mk (show Kd.V k33 33 _ w.heap.size _ _ ((rd_T31 t103 x8_2).f1) from Kd.V_mk ul112_1 ge112_1)
                                      clear hva_ hvn_ hvc_ ge112_1 ul112_1
                                      clear hcc112 hce112
                                      have HR112_1 := Aside0.mk hi112_1
                                      have HC112_1 := Aside0.mk hl112_1
                                      clear hi112_1 hl112_1
                                      replace p112 := eq_true p112
                                      replace q112 := eq_true q112
                                      obtain ⟨Ao30, co30, eo30⟩ := Kd.R_slice HO_6.out
                                      subst eo30
                                      have p116 : 0 ≤ (x8_2 : Int) := of_decide_eq_true (by first | (with_reducible assumption) | assumption)
                                      have q116 : x8_2 < (t107.length : Int) := of_decide_eq_true (by first | (with_reducible assumption) | assumption)
                                      obtain ⟨ad116, e116, hx116_0⟩ := Kd.at_int (Kd.R_reads' HO_6.out).2.2 x8_2 p116 q116
                                      cases e116
                                      replace p116 := eq_true p116
                                      replace q116 := eq_true q116
                                      go_wp2
                                      go_roundg k4
                                      case measure => have := HJ7.out; have := HK2.out; have := HJ17.out; have := HK4.out; omega
                                      case rel => exact ⟨(wrap64 (x8_2 + 1)), (by first | rfl | (simp; done) | (simp [*]; done)), H', ⟨by have := HJ7.out; have := HK2.out; have := HJ17.out; have := HK4.out; omega⟩, ⟨by (with_reducible repeat (first | apply Kd.V_alloc | apply Kd.V_drewN | apply Kd.V_drew)); exact HO_4.out⟩, ⟨by (with_reducible repeat (first | apply Kd.R_alloc | apply Kd.R_drewN | apply Kd.R_drew)); exact HO_6.out⟩, ⟨by repeat (first | (with_reducible first | exact HB.out | apply below_alloc | apply pw_below_drewN | apply below_drew1) | exact HB.out)⟩⟩
                                    · rw [if_neg c29] at H
                                      have c29b0 : (x9_4 == (rd t107 x8_2)) = false := beq_eq_false_iff_ne.mpr c29
                                      have c29b1 : (x9_4 != (rd t107 x8_2)) = true := bne_iff_ne.mpr c29
                                      obtain rfl := Option.some.inj H
                                      have p112 : 0 ≤ (x8_2 : Int) := of_decide_eq_true (by first | (with_reducible assumption) | assumption)
                                      have q112 : x8_2 < (t103.length : Int) := of_decide_eq_true (by first | (with_reducible assumption) | assumption)
                                      obtain ⟨ad112, A112_1, c112_1, e112, hx112_0, hx112_1, hl112_1, hi112_1⟩ := at_T31 (Kd.V_reads' HO_4.out).2.2 x8_2 p112 q112
                                      obtain rfl : ad111 = ad112 := (by injection e112)
                                      obtain ⟨ce112, hce112, hMe112, hcc112⟩ := Kd.V_get HO_4.out z31 x8_2 p112 (by first | exact q112 | exact of_decide_eq_true (by first | (with_reducible assumption) | assumption) | (have e_ := (Kd.V_reads' HO_4.out).1; omega))
                                      obtain ⟨ua112_1, uc112_1, rfl, ul112_1, ge112_1⟩ := k31_openF hMe112
                                      have hv112_1 := hcc112 1 _ rfl
                                      rw [add_field _ _ 1 (by omega)] at hv112_1
                                      replace hv112_1 := Option.some.inj (hv112_1.symm.trans hx112_1)
                                      injection hv112_1 with hva_ hvn_ hvc_
                                      rw [hva_] at ge112_1
                                      rw [hvc_] at ul112_1
                                      have HL112_1 := Aside0.mk (show Kd.V k33 33 _ w.heap.size _ _ ((rd_T31 t103 x8_2).f1) from Kd.V_mk ul112_1 ge112_1)
                                      clear hva_ hvn_ hvc_ ge112_1 ul112_1
                                      clear hcc112 hce112
                                      have HR112_1 := Aside0.mk hi112_1
                                      have HC112_1 := Aside0.mk hl112_1
                                      clear hi112_1 hl112_1
                                      replace p112 := eq_true p112
                                      replace q112 := eq_true q112
                                      obtain ⟨Ao31, co31, eo31⟩ := Kd.R_slice HO_6.out
                                      subst eo31
                                      have p116 : 0 ≤ (x8_2 : Int) := of_decide_eq_true (by first | (with_reducible assumption) | assumption)
                                      have q116 : x8_2 < (t107.length : Int) := of_decide_eq_true (by first | (with_reducible assumption) | assumption)
                                      obtain ⟨ad116, e116, hx116_0⟩ := Kd.at_int (Kd.R_reads' HO_6.out).2.2 x8_2 p116 q116
                                      cases e116
                                      replace p116 := eq_true p116
                                      replace q116 := eq_true q116
                                      go_wp2
                                      go_ret
                                      exact ⟨by first | rfl | (simp [errW_none, errW_some] <;> rfl) | (simp [*, errW_none, errW_some] <;> rfl), by repeat (first | (with_reducible first | exact HB.out | apply below_alloc | apply pw_below_drewN | apply below_drew1) | exact HB.out)⟩
                                  · rw [if_neg c28] at H
                                    exact absurd H (by simp)
                              · rw [if_neg c22] at H
                                exact absurd H (by simp)
                            · rw [if_neg c21] at H
                              exact absurd H (by simp)
                  · rw [if_neg c17] at H
                    exact absurd H (by simp)
                · rw [if_neg c16] at H
                  have c16b0 : decide (x8_2 < (t103.length : Int)) = false := decide_eq_false c16
                  clear c16
                  obtain rfl := Option.some.inj H
                  go_wp2
                  go_ret
                  exact ⟨by first | rfl | (simp [errW_none, errW_some] <;> rfl) | (simp [*, errW_none, errW_some] <;> rfl), by repeat (first | (with_reducible first | exact HB.out | apply below_alloc | apply pw_below_drewN | apply below_drew1) | exact HB.out)⟩
    · rw [if_neg c6] at H
      have c6b0 : (t106 == 0) = false := beq_eq_false_iff_ne.mpr c6
      have c6b1 : (t106 != 0) = true := bne_iff_ne.mpr c6
      obtain rfl := Option.some.inj H
      go_enter Try.func11, Try.ntmps11
      go_wp2_with (first | ((with_reducible refine gate_callee (f := 18) rfl ?_); refine goesL_ (some 11) rfl rfl Try.func18 (by kernel_rfl) rfl #[] rfl (by (try simp only [List.map_toArray, List.map_cons, List.map_nil]); first | done | rfl | (simp only [List.length_drop, List.length_take]; rfl)) ?_; (with_reducible refine (manteletlaw15_shown.calls k  t101 _ A2.out).mono ?_); rintro e w32 ⟨rfl, hb⟩; refine ⟨_, rfl, ?_⟩; have n0_ := Aside0.mk (below_step (by repeat (first | (with_reducible first | exact HB.out | apply below_alloc | apply pw_below_drewN | apply below_drew1) | exact HB.out)) hb); clear HB; have HB := n0_; clear n0_; (try clear hb); (try clear hb2); (try clear hk); (try clear hi)) | ((with_reducible refine gate_callee (f := 19) rfl ?_); refine goesL_ (some 13) rfl rfl Try.func19 (by kernel_rfl) rfl #[.slice A0 l0.length c0] rfl (by (try simp only [List.map_toArray, List.map_cons, List.map_nil]); first | done | rfl | (simp only [List.length_drop, List.length_take]; rfl)) ?_; (with_reducible refine (manteletlaw15_few.calls k _ _ l0 true _ ?side1 ?side2 A3.out).mono ?_); (case side1 => repeat (first | exact (Kd.C_below HR0.out HB.out) | (with_reducible refine Kd.C_alloc ?_ _) | (with_reducible refine Kd.C_drewN ?_ _) | (with_reducible refine Kd.C_drew ?_))); (case side2 => exact HC0.out); rintro e w' ⟨rfl, ⟨nd, rfl⟩⟩; refine ⟨_, rfl, ?_⟩) | ((with_reducible refine gate_callee (f := 20) rfl ?_); refine goesL_ (some 18) rfl rfl Try.func20 (by kernel_rfl) rfl #[.slice A0 l0.length c0] rfl (by (try simp only [List.map_toArray, List.map_cons, List.map_nil]); first | done | rfl | (simp only [List.length_drop, List.length_take]; rfl)) ?_; (with_reducible refine (manteletref14_Build.calls _ _ l0 t103 t106 _ ?side1 ?side2 A5.out).mono ?_); (case side1 => repeat (first | exact (Kd.C_below HR0.out (by repeat (first | (with_reducible first | exact HB.out | apply below_alloc | apply pw_below_drewN | apply below_drew1) | exact HB.out))) | (with_reducible refine Kd.C_alloc ?_ _) | (with_reducible refine Kd.C_drewN ?_ _) | (with_reducible refine Kd.C_drew ?_))); (case side2 => exact HC0.out); rintro e w33 ⟨v104, rfl, ho0, hb⟩; refine ⟨_, rfl, ?_⟩; have n0_ := Aside0.mk (Kd.V_lower (Kd.V_mono (ok' := fun k_ => True) ho0 (fun k_ hk_ => trivial)) (below_size (by repeat (first | (with_reducible first | exact HB.out | apply below_alloc | apply pw_below_drewN | apply below_drew1) | exact HB.out)))); have n1_ := Aside0.mk (below_step (by repeat (first | (with_reducible first | exact HB.out | apply below_alloc | apply pw_below_drewN | apply below_drew1) | exact HB.out)) hb); clear HB; have HO105 := n0_; have HB := n1_; clear n0_ n1_; (try clear hb); (try clear hb2); (try clear hk); (try clear hi); (try clear ho0)))
      go_ret
      exact ⟨by first | rfl | (simp [errW_none, errW_some] <;> rfl) | (simp [*, errW_none, errW_some] <;> rfl), by repeat (first | (with_reducible first | exact HB.out | apply below_alloc | apply pw_below_drewN | apply below_drew1) | exact HB.out)⟩
  · replace c4 := Bool.eq_false_iff.mpr c4
    subst c4
    have H1 : (some t101) = some r := by rw [if_neg (show ¬ (false = true) by decide)] at H; exact H
    clear H
    have H := H1
    clear H1
    obtain rfl := Option.some.inj H
    go_enter Try.func11, Try.ntmps11
    go_wp2_with (first | ((with_reducible refine gate_callee (f := 18) rfl ?_); refine goesL_ (some 11) rfl rfl Try.func18 (by kernel_rfl) rfl #[] rfl (by (try simp only [List.map_toArray, List.map_cons, List.map_nil]); first | done | rfl | (simp only [List.length_drop, List.length_take]; rfl)) ?_; (with_reducible refine (manteletlaw15_shown.calls k  t101 _ A2.out).mono ?_); rintro e w34 ⟨rfl, hb⟩; refine ⟨_, rfl, ?_⟩; have n0_ := Aside0.mk (below_step (by repeat (first | (with_reducible first | exact HB.out | apply below_alloc | apply pw_below_drewN | apply below_drew1) | exact HB.out)) hb); clear HB; have HB := n0_; clear n0_; (try clear hb); (try clear hb2); (try clear hk); (try clear hi)) | ((with_reducible refine gate_callee (f := 19) rfl ?_); refine goesL_ (some 13) rfl rfl Try.func19 (by kernel_rfl) rfl #[.slice A0 l0.length c0] rfl (by (try simp only [List.map_toArray, List.map_cons, List.map_nil]); first | done | rfl | (simp only [List.length_drop, List.length_take]; rfl)) ?_; (with_reducible refine (manteletlaw15_few.calls k _ _ l0 false _ ?side1 ?side2 A3.out).mono ?_); (case side1 => repeat (first | exact (Kd.C_below HR0.out HB.out) | (with_reducible refine Kd.C_alloc ?_ _) | (with_reducible refine Kd.C_drewN ?_ _) | (with_reducible refine Kd.C_drew ?_))); (case side2 => exact HC0.out); rintro e w' ⟨rfl, ⟨nd, rfl⟩⟩; refine ⟨_, rfl, ?_⟩))
    go_ret
    exact ⟨by first | rfl | (simp [errW_none, errW_some] <;> rfl) | (simp [*, errW_none, errW_some] <;> rfl), by repeat (first | (with_reducible first | exact HB.out | apply below_alloc | apply pw_below_drewN | apply below_drew1) | exact HB.out)⟩

end Go.Proofs.Ytebdcblchjhmpaa.PIndexSums

namespace Go.Proofs.Ytebdcblchjhmpaa.Daw
set_option linter.unusedVariables false
set_option linter.unusedSimpArgs false
/-- The words taken from state i on. -/
def wl (b : List DS) (i : Nat) : List (List Nat) := listing b (i + 1) i
theorem listing_fuel {b : List DS} (h : Good b) : ∀ (i k : Nat), i < k → i < b.length → listing b k i = listing b (i + 1) i := by
  intro i
  induction i using Nat.strongRecOn with
  | _ i ih =>
    intro k hk hi
    obtain ⟨k, rfl⟩ : ∃ q, k = q + 1 := ⟨k - 1, by omega⟩
    have e0 : b[i]? = some b[i] := List.getElem?_eq_getElem hi
    have hrow := (h.2 i _ e0).1
    unfold listing
    rw [e0]
    simp only
    congr 1
    have : ∀ es : List DE, (∀ e ∈ es, e.2 < i) → (es.flatMap fun e => (listing b k e.2).map (e.1 :: ·)) = es.flatMap fun e => (listing b i e.2).map (e.1 :: ·) := by
      intro es hes
      induction es with
      | nil => rfl
      | cons e r ihr =>
        have he := hes e (by simp)
        rw [List.flatMap_cons, List.flatMap_cons, ihr (fun f hf => hes f (by simp [hf])), ih e.2 he k (by omega) (by omega), ih e.2 he i (by omega) (by omega)]
    exact this _ (fun e he => hrow.1 e he)
theorem wl_eq {b : List DS} (h : Good b) {i : Nat} (hi : i < b.length) : wl b i = (if b[i].1 = true then [[]] else []) ++ b[i].2.flatMap fun e => (wl b e.2).map (e.1 :: ·) := by
  have e0 : b[i]? = some b[i] := List.getElem?_eq_getElem hi
  have hrow := (h.2 i _ e0).1
  show listing b (i + 1) i = _
  unfold listing
  rw [e0]
  simp only
  congr 1
  have : ∀ es : List DE, (∀ e ∈ es, e.2 < i) → (es.flatMap fun e => (listing b i e.2).map (e.1 :: ·)) = es.flatMap fun e => (wl b e.2).map (e.1 :: ·) := by
    intro es hes
    induction es with
    | nil => rfl
    | cons e r ihr =>
      have he := hes e (by simp)
      rw [List.flatMap_cons, List.flatMap_cons, ihr (fun f hf => hes f (by simp [hf])), listing_fuel h e.2 i he (by omega)]
      rfl
  exact this _ (fun e he => hrow.1 e he)
theorem mem_wl {b : List DS} (h : Good b) {i : Nat} (hi : i < b.length) (v : List Nat) : v ∈ wl b i ↔ acc b i v = true := mem_listing h (i + 1) i (by omega) hi v
theorem wl_sorted {b : List DS} (h : Good b) (i : Nat) : (wl b i).Pairwise (· < ·) := sorted_listing h _ i
/-- How many words are taken from a state on. -/
def cnt (b : List DS) (i : Nat) : Nat := (wl b i).length
def own (s : DS) : Nat := if s.1 = true then 1 else 0
theorem len_flat (f : DE → List (List Nat)) : ∀ es : List DE, (es.flatMap fun e => (f e).map (e.1 :: ·)).length = (es.map fun e => (f e).length).sum
  | [] => rfl
  | e :: r => by rw [List.flatMap_cons, List.length_append, List.length_map, len_flat f r]; simp
theorem cnt_eq {b : List DS} (h : Good b) {i : Nat} (hi : i < b.length) : cnt b i = own b[i] + (b[i].2.map fun e => cnt b e.2).sum := by
  unfold cnt
  rw [wl_eq h hi, List.length_append, len_flat]
  congr 1
  unfold own
  split <;> rfl
theorem cnt_root (l : List (List Nat)) (hs : ([] :: l).Pairwise (· < ·)) (hl : l ≠ []) : wl (build l) ((build l).length - 1) = l := by
  have h1 := (build_least l hs hl).2.2.1
  exact build_lists l hs hl _ (by omega)
/-- From each state on what is taken is the rest of a word. -/
theorem build_reach (l : List (List Nat)) (hs : ([] :: l).Pairwise (· < ·)) (hl : l ≠ []) : Good (build l) ∧ ∀ j, j < (build l).length → ∃ u : List Nat, ∀ v, acc (build l) j v = true → (u ++ v) ∈ l := by
  have h := adds_ok l start 0 start_ok hs
  have hlang := adds_lang l start 0 start_ok hs
  have hreach := adds_reach l start 0 start_ok hs (fun j hj => absurd hj (by simp [start]))
  obtain ⟨s, r, hp, hrl, hse, hsf, hP⟩ := h.path
  have hrow : Row (l.foldl add start).left.length s := ⟨by simp [hse], by rw [hse]; trivial⟩
  obtain ⟨s', r', q1, q2, q3, q4, q5, q6, q7, q8, q9⟩ := leave_ok (l.foldl add start).word 0 r.length _ s r rfl (Nat.zero_le _) h.good hrow (fun h0 => Or.inl (hsf h0)) hP (by omega)
  have hlr := leave_reach (l.foldl add start).word 0 (lang (l.foldl add start).left (l.foldl add start).word (l.foldl add start).path) r.length _ s r rfl h.good hrow (fun h0 => Or.inl (hsf h0)) hP hreach (fun v hv => by rw [hp]; exact hv)
  rw [← hp] at q1 q3 q4 q5 q6 q8 q9 hlr
  have hlangl : ∀ v, lang (l.foldl add start).left (l.foldl add start).word (l.foldl add start).path v = decide (v ∈ l) := by
    intro v
    have h0 : lang start.left start.word start.path v = false := by cases v <;> simp [start, lang, PL, accS, fnd]
    rw [hlang v, h0, Bool.false_or]
  obtain ⟨a, t, hb, hg, hacc⟩ := build_takes l hs hl
  have hb2 : build l = (num (leave (l.foldl add start).word 0 (l.foldl add start).left (l.foldl add start).path).1 s').1 := by
    unfold build finish
    rw [q1]
  refine ⟨by rw [hb]; exact hg, fun j hj => ?_⟩
  by_cases hja : j = a.length
  · subst hja
    exact ⟨[], fun v hv => by rw [hacc] at hv; simpa using hv⟩
  · have hjl : j < (leave (l.foldl add start).word 0 (l.foldl add start).left (l.foldl add start).path).1.length := by
      have h1 : (build l).length ≤ (leave (l.foldl add start).word 0 (l.foldl add start).left (l.foldl add start).path).1.length + 1 := by
        rw [hb2]; unfold num; split
        · exact Nat.le_succ _
        · simp
      have h2 : (build l).length = a.length + 1 := by rw [hb]; simp
      omega
    obtain ⟨u, _, hv⟩ := hlr j hjl
    refine ⟨u, fun v h1 => ?_⟩
    have e : acc (build l) j v = acc (leave (l.foldl add start).word 0 (l.foldl add start).left (l.foldl add start).path).1 j v := by
      rw [hb2]; unfold num; split
      · rfl
      · exact acc_ext q3 v j hjl
    rw [e] at h1
    have h2 := hv v h1
    rw [hlangl] at h2
    exact of_decide_eq_true h2
theorem nodup_len : ∀ (x y : List (List Nat)), x.Nodup → (∀ v ∈ x, v ∈ y) → x.length ≤ y.length
  | [], y, _, _ => Nat.zero_le _
  | a :: x, y, hn, h => by
    rw [List.nodup_cons] at hn
    have ha := h a (by simp)
    have := nodup_len x (y.erase a) hn.2 (fun v hv => (List.mem_erase_of_ne (fun e => hn.1 (by rw [← e]; exact hv))).2 (h v (by simp [hv])))
    rw [List.length_erase_of_mem ha] at this
    have := List.length_pos_of_mem ha
    simp only [List.length_cons]; omega
/-- No state takes more words than there are. -/
theorem cnt_le (l : List (List Nat)) (hs : ([] :: l).Pairwise (· < ·)) (hl : l ≠ []) {j : Nat} (hj : j < (build l).length) : cnt (build l) j ≤ l.length := by
  obtain ⟨hg, hr⟩ := build_reach l hs hl
  obtain ⟨u, hu⟩ := hr j hj
  have h1 : ((wl (build l) j).map (u ++ ·)).Nodup := by
    unfold List.Nodup
    rw [List.pairwise_map]
    refine (wl_sorted hg j).imp (fun {a b} hab e => ?_)
    have : a = b := List.append_cancel_left e
    subst this
    exact List.lt_irrefl a hab
  have := nodup_len _ l h1 (fun v hv => by
    obtain ⟨x, hx, rfl⟩ := List.mem_map.1 hv
    exact hu x ((mem_wl hg hj x).1 hx))
  rw [List.length_map] at this
  exact this
theorem fnd_split {s : DS} (hr : Rising s.2) {c : Nat} {e : DE} (h : fnd s c = some e) : ∃ pre post, s.2 = pre ++ e :: post ∧ e.1 = c ∧ (∀ f ∈ pre, f.1 < c) ∧ (∀ f ∈ post, c < f.1) := by
  unfold fnd at h
  obtain ⟨b, l⟩ := s
  simp only at hr h ⊢
  induction l with
  | nil => simp at h
  | cons a r ih =>
    rw [List.find?_cons] at h
    by_cases hc : (a.1 == c) = true
    · rw [hc] at h
      have e1 : a = e := by simpa using h
      subst e1
      have hac : a.1 = c := by simpa using hc
      exact ⟨[], r, rfl, hac, by simp, fun f hf => by rw [← hac]; exact hr.1 f hf⟩
    · have hc' : (a.1 == c) = false := by simpa using hc
      rw [hc'] at h
      obtain ⟨pre, post, h1, h2, h3, h4⟩ := ih hr.2 h
      refine ⟨a :: pre, post, by rw [h1]; rfl, h2, fun f hf => ?_, h4⟩
      rcases List.mem_cons.1 hf with rfl | hf
      · have : f.1 < e.1 := hr.1 e (by rw [h1]; simp)
        omega
      · exact h3 f hf
theorem idx_skip {α : Type} [BEq α] [LawfulBEq α] (x y : List α) (v : α) (h : v ∉ x) : (x ++ y).idxOf v = x.length + y.idxOf v := by
  rw [List.idxOf_append, if_neg h]
  omega
theorem idx_cons (c : Nat) (x : List (List Nat)) (v : List Nat) : (x.map (c :: ·)).idxOf (c :: v) = x.idxOf v := by
  induction x with
  | nil => rfl
  | cons a r ih =>
    rw [List.map_cons, List.idxOf_cons, List.idxOf_cons, ih]
    by_cases h : a = v
    · subst h; simp
    · have h1 : (a == v) = false := by simpa using h
      have h2 : ((c :: a) == (c :: v)) = false := by simpa using h
      rw [h1, h2]
/-- The place of a word behind byte c: what the state takes by itself, what lower bytes lead to, and its place there. -/
theorem place_cons {b : List DS} (h : Good b) {i : Nat} (hi : i < b.length) {c : Nat} {v : List Nat} {e : DE} {pre post : List DE} (hs : b[i].2 = pre ++ e :: post) (he : e.1 = c) (hpre : ∀ f ∈ pre, f.1 < c) (hv : v ∈ wl b e.2) :
    (wl b i).idxOf (c :: v) = own b[i] + (pre.map fun f => cnt b f.2).sum + (wl b e.2).idxOf v := by
  rw [wl_eq h hi, hs, List.flatMap_append, List.flatMap_cons]
  have h1 : (c :: v) ∉ (if b[i].1 = true then [[]] else [] : List (List Nat)) := by split <;> simp
  have h2 : (c :: v) ∉ pre.flatMap fun e => (wl b e.2).map (e.1 :: ·) := by
    intro hm
    obtain ⟨f, hf, hm⟩ := List.mem_flatMap.1 hm
    obtain ⟨u, _, hu⟩ := List.mem_map.1 hm
    have := hpre f hf
    injection hu with hu _
    omega
  have h3 : (c :: v) ∈ (wl b e.2).map (e.1 :: ·) := List.mem_map.2 ⟨v, hv, by rw [he]⟩
  rw [idx_skip _ _ _ h1, idx_skip _ _ _ h2, List.idxOf_append, if_pos h3, he, idx_cons, len_flat]
  have : (if b[i].1 = true then [[]] else [] : List (List Nat)).length = own b[i] := by unfold own; split <;> rfl
  rw [this]
  unfold cnt
  omega
theorem place_nil {b : List DS} (h : Good b) {i : Nat} (hi : i < b.length) (hv : [] ∈ wl b i) : (wl b i).idxOf [] = 0 := by
  rw [mem_wl h hi, acc_at (s := b[i]) (List.getElem?_eq_getElem hi)] at hv
  rw [wl_eq h hi, if_pos (show b[i].1 = true from hv)]
  rfl
end Go.Proofs.Ytebdcblchjhmpaa.Daw

namespace Go.Proofs.Ytebdcblchjhmpaa.K
open Go.RowKit Go.Proofs.YtebdcblchjhmpaaW.PrintWords Go.Proofs.YtebdcblchjhmpaaW.PrintLast Go.Proofs.YtebdcblchjhmpaaW.PrintMore Go.Proofs.Ytebdcblchjhmpaa
attribute [local go_sem] max2_int min2_int max_two min_two max_three min_three max_four min_four
set_option linter.unusedVariables false
set_option linter.unusedSimpArgs false
open Go.Proofs.Ytebdcblchjhmpaa.PDk Go.Proofs.Ytebdcblchjhmpaa.PDm Go.Proofs.Ytebdcblchjhmpaa.PIx Go.Proofs.Ytebdcblchjhmpaa.Daw
theorem u64_small {x : Int} (h0 : 0 ≤ x) (h1 : x < 18446744073709551616) : IntKind.u64.wrap x = x := by
  simp only [IntKind.wrap, IntKind.bits, IntKind.signed]
  simp
  omega
theorem wx {x : Int} (h0 : -9223372036854775808 ≤ x) (h1 : x < 9223372036854775808) : Go.RowKit.wrap64 x = x := by unfold Go.RowKit.wrap64; omega
theorem rdS31 (l : List S31) (i : Nat) (h : i < l.length) : rd_T31 l (i : Int) = l[i] := by
  unfold rd_T31
  rw [Int.toNat_natCast, List.getD_eq_getElem?_getD, List.getElem?_eq_getElem h]; rfl
theorem rdS33 (l : List S33) (i : Nat) (h : i < l.length) : rd_T33 l (i : Int) = l[i] := by
  unfold rd_T33
  rw [Int.toNat_natCast, List.getD_eq_getElem?_getD, List.getElem?_eq_getElem h]; rfl
theorem own_f (s : DS) : index_own.f (toS s).f0 (toS s).f1 = some ((own s : Nat) : Int) := by
  unfold index_own.f own
  show (if s.1 = true then _ else _) = _
  split <;> simp_all
theorem add_f {a b : Nat} (h : a + b ≤ 4611686018427387904) : num_Add.f (a : Int) (b : Int) = some (((a + b : Nat) : Int), true) := by
  unfold num_Add.f
  rw [if_neg (by omega), u64_small (x := 4611686018427387904 - (a : Int)) (by omega) (by omega), if_neg (by omega), u64_small (by omega) (by omega)]
  simp
/-- What is known of an automaton: edges lead lower; the counts. -/
structure Cnt (b : List DS) (cs : Nat → Nat) : Prop where
  low : ∀ i (h : i < b.length), ∀ e ∈ b[i].2, e.2 < i
  eq : ∀ i (h : i < b.length), cs i = own b[i] + (b[i].2.map fun e => cs e.2).sum
  le : ∀ i, i < b.length → cs i ≤ 4611686018427387904
  few : ∀ i (h : i < b.length), b[i].2.length ≤ 8796093022208
  len : b.length ≤ 4398046511104
def csL (cs : Nat → Nat) (n : Nat) : List Int := (List.range n).map fun i => (cs i : Int)
theorem csL_len (cs : Nat → Nat) (n : Nat) : (csL cs n).length = n := by simp [csL]
theorem csL_succ (cs : Nat → Nat) (n : Nat) : csL cs (n + 1) = csL cs n ++ [(cs n : Int)] := by unfold csL; rw [List.range_succ]; simp
theorem rd_csL (cs : Nat → Nat) (n m i : Nat) (h : i < n) : rd (csL cs n ++ List.replicate m 0) (i : Int) = (cs i : Int) := by
  rw [rd_nat, List.getD_eq_getElem?_getD, List.getElem?_append_left (by rw [csL_len]; exact h)]
  unfold csL
  rw [List.getElem?_map, List.getElem?_range h]
  rfl
theorem sum_take_le (f : DE → Nat) (es : List DE) (j : Nat) : ((es.take j).map f).sum ≤ (es.map f).sum := by
  have e : es = es.take j ++ es.drop j := (List.take_append_drop j es).symm
  conv => rhs; rw [e]
  rw [List.map_append, List.sum_append]; omega
theorem sum_take_succ (f : DE → Nat) (es : List DE) (j : Nat) (h : j < es.length) : ((es.take (j + 1)).map f).sum = ((es.take j).map f).sum + f es[j] := by
  rw [List.take_succ_eq_append_getElem h, List.map_append, List.sum_append]; simp
section
variable {b : List DS} {cs : Nat → Nat}
theorem toS_get (i : Nat) (h : i < b.length) : (b.map toS)[i]'(by rw [List.length_map]; exact h) = toS b[i] := List.getElem_map ..
theorem counts_l1 (h : Cnt b cs) (i : Nat) (hi : i < b.length) {r : List Int × Int} (hn : Ev (fun k => index_Counts.l0 k (b.map toS) (csL cs (i + 1) ++ List.replicate (b.length - (i + 1)) 0) (b.length : Int) ((i + 1 : Nat) : Int)) r) :
    ∀ (d j : Nat), j + d = b[i].2.length → Ev (fun k => index_Counts.l1 k (b.map toS) (csL cs i ++ List.replicate (b.length - i) 0) (i : Int) ((own b[i] + ((b[i].2.take j).map fun e => cs e.2).sum : Nat) : Int) (b.length : Int) (i : Int) (toS b[i]).f1 ((toS b[i]).f1.length : Int) (j : Int)) r
  | 0, j, hd => by
    have hl := h.len
    have hj : b[i].2.take j = b[i].2 := List.take_of_length_le (by omega)
    have he : (toS b[i]).f1.length = b[i].2.length := by simp [toS]
    rw [hj, ← h.eq i hi]
    refine Ev.step (fun k => ?_) hn
    simp only [index_Counts.l1]
    rw [if_neg (by omega), if_pos (by omega), if_pos (by rw [List.length_append, csL_len, List.length_replicate]; omega), wx (by omega) (by omega), Int.toNat_natCast]
    have hset : (csL cs i ++ List.replicate (b.length - i) 0).set i (cs i : Int) = csL cs (i + 1) ++ List.replicate (b.length - (i + 1)) 0 := by
      rw [csL_succ, List.set_append_right _ _ (by rw [csL_len]; exact Nat.le_refl _), csL_len, Nat.sub_self, show b.length - i = (b.length - (i + 1)) + 1 from by omega, List.replicate_succ, List.set_cons_zero, List.append_assoc]
      rfl
    rw [hset, show ((i : Int) + 1) = ((i + 1 : Nat) : Int) from by omega]
  | d + 1, j, hd => by
    have hl := h.len
    have hf := h.few i hi
    have ih := counts_l1 h i hi hn d (j + 1) (by omega)
    have hj : j < b[i].2.length := by omega
    have he : (toS b[i]).f1.length = b[i].2.length := by simp [toS]
    have hlow := h.low i hi _ (List.getElem_mem hj)
    have hle := h.le i hi
    have heq := h.eq i hi
    have s1 := sum_take_le (fun e => cs e.2) b[i].2 (j + 1)
    have s2 := sum_take_succ (fun e => cs e.2) b[i].2 j hj
    have hg : ((toS b[i]).f1[j]'(by omega)).f1 = ((b[i].2[j].2 : Nat) : Int) := by simp [toS, toE]
    refine Ev.step (fun k => ?_) ih
    simp only [index_Counts.l1]
    rw [if_pos (by omega), if_pos (by omega), if_pos (by omega), rdS33 _ j (by omega), hg, if_pos (by omega), if_pos (by rw [List.length_append, csL_len, List.length_replicate]; omega), rd_csL _ _ _ _ hlow, add_f (by omega), Option.bind_some, if_pos rfl, wx (x := (j : Int) + 1) (by omega) (by omega)]
    rw [s2, show ((j : Int) + 1) = ((j + 1 : Nat) : Int) from by omega, Nat.add_assoc]
theorem counts_l0 (h : Cnt b cs) : ∀ (d i : Nat), i + d = b.length → Ev (fun k => index_Counts.l0 k (b.map toS) (csL cs i ++ List.replicate (b.length - i) 0) (b.length : Int) (i : Int)) (csL cs b.length, 0)
  | 0, i, hd => by
    have : i = b.length := by omega
    subst this
    refine Ev.step (f := fun _ => some (csL cs b.length, 0)) (fun k => ?_) (Ev.now _)
    simp only [index_Counts.l0]
    rw [if_neg (by omega), Nat.sub_self]
    simp
  | d + 1, i, hd => by
    have hi : i < b.length := by omega
    have ih := counts_l0 h d (i + 1) (by omega)
    have h1 := counts_l1 h i hi ih b[i].2.length 0 (by omega)
    refine Ev.step (fun k => ?_) h1
    simp only [index_Counts.l0]
    rw [if_pos (by omega), if_pos (by omega), if_pos (by rw [List.length_map]; omega), rdS31 _ i (by rw [List.length_map]; exact hi), toS_get i hi, own_f, Option.bind_some]
    simp
theorem counts_ev (h : Cnt b cs) (hm : daw_May.f (b.map toS) = some true) : Ev (fun k => index_Counts.f k (b.map toS)) (csL cs b.length, 0) := by
  have hl := h.len
  refine Ev.congr (fun k => ?_) (counts_l0 h b.length 0 (by omega))
  unfold index_Counts.f
  rw [hm, Option.bind_some, if_pos rfl, List.length_map, if_pos (by omega), Int.toNat_natCast, if_pos (by omega)]
  simp [csL]
end
end Go.Proofs.Ytebdcblchjhmpaa.K

namespace Go.Proofs.Ytebdcblchjhmpaa.K
open Go.RowKit Go.Proofs.YtebdcblchjhmpaaW.PrintWords Go.Proofs.YtebdcblchjhmpaaW.PrintLast Go.Proofs.YtebdcblchjhmpaaW.PrintMore Go.Proofs.Ytebdcblchjhmpaa
attribute [local go_sem] max2_int min2_int max_two min_two max_three min_three max_four min_four
set_option linter.unusedVariables false
set_option linter.unusedSimpArgs false
open Go.Proofs.Ytebdcblchjhmpaa.PDk Go.Proofs.Ytebdcblchjhmpaa.PDm Go.Proofs.Ytebdcblchjhmpaa.PIx Go.Proofs.Ytebdcblchjhmpaa.Daw
theorem bt_nats (s : ByteArray) (i : Nat) (h : i < s.size) : bt s (i : Int) = (((Utf.nats s).getD i 0 : Nat) : Int) := by
  unfold bt
  rw [dif_pos (show ((i : Int)).toNat < s.size by omega)]
  unfold Utf.nats
  rw [List.getD_eq_getElem?_getD, List.getElem?_map, Array.getElem?_toList]
  simp only [Int.toNat_natCast]
  rw [Array.getElem?_eq_getElem (show i < s.data.size from h)]
  rfl
theorem nats_drop (s : ByteArray) (i : Nat) (h : i < s.size) : (Utf.nats s).drop i = (Utf.nats s).getD i 0 :: (Utf.nats s).drop (i + 1) := by
  have hl : i < (Utf.nats s).length := by simpa [Utf.nats] using h
  rw [List.drop_eq_getElem_cons hl, List.getD_eq_getElem?_getD, List.getElem?_eq_getElem hl]
  rfl
section
variable {b : List DS}
/-- What index knows of an automaton. -/
structure Known (b : List DS) : Prop where
  good : Daw.Good b
  cnt : Cnt b (Daw.cnt b)
theorem rd_cs (h : Known b) (i : Nat) (hi : i < b.length) : rd (csL (Daw.cnt b) b.length) (i : Int) = ((Daw.cnt b i : Nat) : Int) := by
  have := rd_csL (Daw.cnt b) b.length 0 i hi
  simpa using this
theorem toE_f0 (e : DE) : (toE e).f0 = (e.1 : Int) := rfl
theorem toE_f1 (e : DE) : (toE e).f1 = (e.2 : Int) := rfl
theorem of_l1 {R : List S31} {csl : List Int} {c : Nat → Nat} (x1 : ByteArray) (i : Nat) (hi : i < x1.size) (es pre post : List DE) (e : DE) (B : Nat) (hs : es = pre ++ e :: post) (he : e.1 = B) (hB : bt x1 (i : Int) = (B : Int)) (hpre : ∀ f ∈ pre, f.1 < B) (hpost : ∀ f ∈ post, B < f.1)
    (hlen : es.length ≤ 8796093022208) (hrd : ∀ f ∈ es, f.2 < csl.length ∧ rd csl (f.2 : Int) = ((c f.2 : Nat) : Int))
    (q : Nat → Nat) (hq : ∀ j (h : j < pre.length), q (j + 1) = q j + c pre[j].2) (hqe : ∀ j, pre.length ≤ j → q j = q pre.length) (hqm : ∀ j, q j ≤ 4611686018427387904) {r : Int × Bool}
    (hn : Ev (fun k => index_Of.l0 k R x1 csl ((q pre.length : Nat) : Int) (e.2 : Int) (x1.size : Int) (Go.RowKit.wrap64 ((i : Int) + 1))) r) :
    ∀ (d j : Nat), j + d = es.length → Ev (fun k => index_Of.l1 k R x1 csl ((q j : Nat) : Int) (i : Int) (if j ≤ pre.length then 0 else (e.2 : Int)) (x1.size : Int) (i : Int) (es.map toE) ((es.map toE).length : Int) (j : Int)) r
  | 0, j, hd => by
    have hl : es.length = pre.length + (post.length + 1) := by rw [hs]; simp
    rw [hqe j (by omega), if_neg (by omega)]
    refine Ev.step (fun k => ?_) hn
    simp only [index_Of.l1]
    rw [if_neg (by rw [List.length_map]; omega)]
  | d + 1, j, hd => by
    have ih := of_l1 x1 i hi es pre post e B hs he hB hpre hpost hlen hrd q hq hqe hqm hn d (j + 1) (by omega)
    have hl : es.length = pre.length + (post.length + 1) := by rw [hs]; simp
    have hj : j < es.length := by omega
    obtain ⟨hr1, hr2_⟩ := hrd _ (List.getElem_mem hj)
    have HB := Aside0.mk hB
    have hr2 := Aside0.mk hr2_
    clear hr2_ hB
    have hw := Aside0.mk (show Go.RowKit.wrap64 ((j : Int) + 1) = ((j + 1 : Nat) : Int) by rw [wx (by omega) (by omega)]; omega)
    have hg : (es.map toE)[j]'(by rw [List.length_map]; exact hj) = toE es[j] := List.getElem_map ..
    have q1 : (j : Int) < ((es.map toE).length : Int) := by rw [List.length_map]; omega
    have q2 : (0 : Int) ≤ (j : Int) := by omega
    have q3 : (0 : Int) ≤ (i : Int) := by omega
    have q4 : (i : Int) < (x1.size : Int) := by omega
    refine Ev.step (fun k => ?_) ih
    simp only [index_Of.l1]
    rw [if_pos q1, if_pos q2, if_pos q1, if_pos q3, if_pos q4, rdS33 _ j (by rw [List.length_map]; exact hj), hg, HB.out, hw.out]
    rw [toE_f0, toE_f1]
    by_cases c1 : j < pre.length
    · have hget : es[j] = pre[j] := by simp only [hs]; rw [List.getElem_append_left c1]
      have hlt := hpre _ (List.getElem_mem c1)
      have hq1 := hq j c1
      have hq2 := hqm (j + 1)
      rw [hget] at hr1 hr2 ⊢
      generalize pre[j] = pj at hr1 hr2 hlt hq1
      clear hq hqe hqm hrd hpre hpost hs hget
      have z1 : ((pj.1 : Nat) : Int) < (B : Int) := by omega
      have z2 : (0 : Int) ≤ ((pj.2 : Nat) : Int) := by omega
      have z3 : ((pj.2 : Nat) : Int) < (csl.length : Int) := by omega
      have z4 : j ≤ pre.length := by omega
      have z5 : j + 1 ≤ pre.length := by omega
      have z6 : IntKind.u64.wrap (((q j : Nat) : Int) + ((c pj.2 : Nat) : Int)) = ((q (j + 1) : Nat) : Int) := by rw [u64_small (by omega) (by omega)]; omega
      rw [if_pos z1, if_pos z2, if_pos z3, hr2.out, if_pos z4, if_pos z5, z6]
    · by_cases c2 : j = pre.length
      · have hget : es[j] = e := by
          simp only [hs]
          subst c2
          simp
        have hq1 := hqe (j + 1) (by omega)
        rw [hget, he, if_neg (Int.lt_irrefl _), if_pos rfl, hq1, if_neg (show ¬ j + 1 ≤ pre.length by omega)]
        rw [show q j = q pre.length from hqe j (by omega)]
      · have hget : es[j] ∈ post := by
          have h1 : es[j] = (e :: post)[j - pre.length]'(by simp; omega) := by simp only [hs]; rw [List.getElem_append_right (by omega)]
          rw [h1]
          obtain ⟨m, hm⟩ : ∃ m, j - pre.length = m + 1 := ⟨j - pre.length - 1, by omega⟩
          simp only [hm, List.getElem_cons_succ]
          exact List.getElem_mem _
        have hgt := hpost _ hget
        have z1 : ¬ ((es[j].1 : Nat) : Int) < (B : Int) := by omega
        have z2 : ¬ ((es[j].1 : Nat) : Int) = (B : Int) := by omega
        rw [if_neg z1, if_neg z2, hqe j (by omega), hqe (j + 1) (by omega), if_neg (show ¬ j + 1 ≤ pre.length by omega), if_neg (show ¬ j ≤ pre.length by omega)]
theorem of_l0 (h : Known b) (x1 : ByteArray) (hx : x1.size ≤ 140737488355328) : ∀ (d i at_ below : Nat), i + d = x1.size → at_ < b.length → below + Daw.cnt b at_ ≤ 4611686018427387904 → (Utf.nats x1).drop i ∈ wl b at_ →
    Ev (fun k => index_Of.l0 k (b.map toS) x1 (csL (Daw.cnt b) b.length) (below : Int) (at_ : Int) (x1.size : Int) (i : Int)) (((below + (wl b at_).idxOf ((Utf.nats x1).drop i) : Nat) : Int), true)
  | 0, i, at_, below, hd, hat, hb, hv => by
    have hl : (Utf.nats x1).length = x1.size := by simp [Utf.nats]
    have e : (Utf.nats x1).drop i = [] := List.drop_eq_nil_of_le (by omega)
    rw [e] at hv ⊢
    rw [place_nil h.good hat hv, Nat.add_zero]
    have z1 : ¬ (i : Int) < (x1.size : Int) := by omega
    have z2 : Go.RowKit.wrap64 (below : Int) = (below : Int) := by clear hv e hl hd; exact wx (by omega) (by omega)
    refine Ev.step (f := fun _ => some ((below : Int), true)) (fun k => ?_) (Ev.now _)
    simp only [index_Of.l0]
    rw [if_neg z1, z2]
  | d + 1, i, at_, below, hd, hat, hb, hv => by
    have hi : i < x1.size := by omega
    have hB_ := bt_nats x1 i hi
    rw [nats_drop x1 i hi] at hv ⊢
    generalize (Utf.nats x1).getD i 0 = B at hv hB_ ⊢
    have hB := Aside0.mk hB_
    clear hB_
    have hacc := (mem_wl h.good hat _).1 hv
    rw [acc_at (s := b[at_]) (List.getElem?_eq_getElem hat)] at hacc
    have hrow := (h.good.2 at_ _ (List.getElem?_eq_getElem hat)).1
    have haccs : accS b b[at_] (B :: (Utf.nats x1).drop (i + 1)) = match fnd b[at_] B with | some e => acc b e.2 ((Utf.nats x1).drop (i + 1)) | none => false := rfl
    rw [haccs] at hacc
    clear haccs
    cases hf : fnd b[at_] B with
    | none => rw [hf] at hacc; cases hacc
    | some e =>
      rw [hf] at hacc
      obtain ⟨pre, post, hs, he, hpre, hpost⟩ := fnd_split hrow.2 hf
      have hem : e ∈ b[at_].2 := by rw [hs]; simp
      have hlow := h.cnt.low at_ hat e hem
      have he2 : e.2 < b.length := by omega
      have hv2 : (Utf.nats x1).drop (i + 1) ∈ wl b e.2 := (mem_wl h.good he2 _).2 hacc
      have hpl_ := place_cons h.good hat hs he hpre hv2
      have heq_ := h.cnt.eq at_ hat
      have hsum_ : (b[at_].2.map fun f => Daw.cnt b f.2).sum = (pre.map fun f => Daw.cnt b f.2).sum + (Daw.cnt b e.2 + (post.map fun f => Daw.cnt b f.2).sum) := by rw [hs, List.map_append, List.sum_append]; simp
      have heq := Aside0.mk heq_; have hsum := Aside0.mk hsum_; have hpl := Aside0.mk hpl_
      clear heq_ hsum_ hpl_
      have hfew := h.cnt.few at_ hat
      have hrd : ∀ f ∈ b[at_].2, f.2 < (csL (Daw.cnt b) b.length).length ∧ rd (csL (Daw.cnt b) b.length) (f.2 : Int) = ((Daw.cnt b f.2 : Nat) : Int) := fun f hf => by
        have := h.cnt.low at_ hat f hf
        have hlt : f.2 < b.length := by omega
        exact ⟨by rw [csL_len]; exact hlt, rd_cs h f.2 hlt⟩
      obtain ⟨q, hq⟩ : ∃ q : Nat → Nat, q = fun j => below + (own b[at_] + ((pre.take j).map fun f => Daw.cnt b f.2).sum) := ⟨_, rfl⟩
      have q0_ : q 0 = below + own b[at_] := by rw [hq]; simp
      have qpl_ : q pre.length = below + (own b[at_] + (pre.map fun f => Daw.cnt b f.2).sum) := by rw [hq]; simp only [List.take_length]
      have q0 := Aside0.mk q0_; have qpl := Aside0.mk qpl_
      clear q0_ qpl_
      have qs : ∀ j (h : j < pre.length), q (j + 1) = q j + Daw.cnt b pre[j].2 := fun j hj => by
        rw [hq]
        show below + (own b[at_] + ((pre.take (j + 1)).map fun f => Daw.cnt b f.2).sum) = below + (own b[at_] + ((pre.take j).map fun f => Daw.cnt b f.2).sum) + Daw.cnt b pre[j].2
        rw [sum_take_succ (fun f => Daw.cnt b f.2) pre j hj]
        generalize ((pre.take j).map fun f => Daw.cnt b f.2).sum = X
        generalize Daw.cnt b pre[j].2 = Y
        omega
      have qe : ∀ j, pre.length ≤ j → q j = q pre.length := fun j hj => by
        rw [hq]
        show below + (own b[at_] + ((pre.take j).map fun f => Daw.cnt b f.2).sum) = below + (own b[at_] + ((pre.take pre.length).map fun f => Daw.cnt b f.2).sum)
        rw [List.take_of_length_le hj, List.take_length]
      have qm : ∀ j, q j ≤ q pre.length := fun j => by
        rw [qpl.out, hq]
        show below + (own b[at_] + ((pre.take j).map fun f => Daw.cnt b f.2).sum) ≤ _
        have := sum_take_le (fun f => Daw.cnt b f.2) pre j
        generalize ((pre.take j).map fun f => Daw.cnt b f.2).sum = X at this ⊢
        generalize (pre.map fun f => Daw.cnt b f.2).sum = Y at this ⊢
        omega
      clear hq
      have hb2 := hb
      rw [heq.out, hsum.out] at hb2
      have HB2 := Aside0.mk hb2
      clear hb2
      have hbq : q pre.length + Daw.cnt b e.2 ≤ 4611686018427387904 := by
        have hb := HB2.out
        rw [qpl.out]
        clear qm qe qs q0 qpl heq hsum hpl hlow hfew hB HB2
        generalize (pre.map fun f => Daw.cnt b f.2).sum = X at hb ⊢
        generalize (post.map fun f => Daw.cnt b f.2).sum = Y at hb
        generalize Daw.cnt b e.2 = Z at hb ⊢
        generalize own b[at_] = W at hb ⊢
        omega
      have ih := of_l0 h x1 hx d (i + 1) e.2 (q pre.length) (by omega) he2 hbq hv2
      have hw_ : Go.RowKit.wrap64 ((i : Int) + 1) = ((i + 1 : Nat) : Int) := by rw [wx (by omega) (by omega)]; omega
      rw [← hw_] at ih
      clear hw_
      have hqm : ∀ j, q j ≤ 4611686018427387904 := fun j => Nat.le_trans (qm j) (Nat.le_trans (Nat.le_add_right _ _) hbq)
      have h1 := of_l1 (R := b.map toS) x1 i hi b[at_].2 pre post e B hs he hB.out hpre hpost hfew hrd q qs qe hqm ih b[at_].2.length 0 (by omega)
      rw [if_pos (Nat.zero_le _)] at h1
      have hres : below + (wl b at_).idxOf (B :: (Utf.nats x1).drop (i + 1)) = q pre.length + (wl b e.2).idxOf ((Utf.nats x1).drop (i + 1)) := by
        rw [hpl.out, qpl.out]
        generalize (wl b e.2).idxOf ((Utf.nats x1).drop (i + 1)) = X
        generalize (pre.map fun f => Daw.cnt b f.2).sum = Y
        generalize own b[at_] = W
        omega
      rw [hres]
      refine Ev.step (fun k => ?_) h1
      have z0 : (i : Int) < (x1.size : Int) := by omega
      have z1 : (0 : Int) ≤ (at_ : Int) := by omega
      have z2 : (at_ : Int) < ((b.map toS).length : Int) := by rw [List.length_map]; omega
      have z3 : IntKind.u64.wrap ((below : Int) + ((own b[at_] : Nat) : Int)) = ((q 0 : Nat) : Int) := by
        have := hqm 0
        rw [q0.out] at this ⊢
        generalize own b[at_] = W at this ⊢
        rw [u64_small (by omega) (by omega)]; omega
      simp only [index_Of.l0]
      rw [if_pos z0, if_pos z1, if_pos z2, rdS31 _ at_ (by rw [List.length_map]; exact hat), toS_get at_ hat, own_f, Option.bind_some, z3]
      rfl
/-- index.Of: a word's place. -/
theorem of_ev (h : Known b) (hm : daw_May.f (b.map toS) = some true) (h0 : 0 < b.length) (x1 : ByteArray) (hx : x1.size ≤ 140737488355328) (hh : daw_Has.f (b.map toS) x1 = some (decide (Utf.nats x1 ∈ wl b (b.length - 1)))) :
    Ev (fun k => index_Of.f k (b.map toS) x1) (if Utf.nats x1 ∈ wl b (b.length - 1) then (((wl b (b.length - 1)).idxOf (Utf.nats x1) : Nat) : Int) else 0, decide (Utf.nats x1 ∈ wl b (b.length - 1))) := by
  unfold index_Of.f
  refine Ev.bind (counts_ev h.cnt hm) ?_
  have hlen := h.cnt.len
  by_cases hv : Utf.nats x1 ∈ wl b (b.length - 1)
  · rw [if_pos hv, decide_eq_true hv]
    have hle := h.cnt.le (b.length - 1) (by omega)
    have hof := of_l0 h x1 hx x1.size 0 (b.length - 1) 0 (by omega) (by omega) (by omega) hv
    rw [Nat.zero_add] at hof
    refine Ev.congr (f := fun k => index_Of.j0 k (b.map toS) x1 (csL (Daw.cnt b) b.length) false) (fun k => ?_) (Ev.step (fun k => ?_) hof)
    · rw [if_pos rfl, hh, decide_eq_true hv, Option.bind_some]; rfl
    · simp only [index_Of.j0]
      rw [if_neg (by decide), List.length_map, wx (by omega) (by omega), show ((b.length : Int) - 1) = ((b.length - 1 : Nat) : Int) from by omega]
      rfl
  · rw [if_neg hv, decide_eq_false hv]
    refine Ev.congr (f := fun k => index_Of.j0 k (b.map toS) x1 (csL (Daw.cnt b) b.length) true) (fun k => ?_) (Ev.step (f := fun _ => some (0, false)) (fun k => ?_) (Ev.now _))
    · rw [if_pos rfl, hh, decide_eq_false hv, Option.bind_some]; rfl
    · simp only [index_Of.j0]; rw [if_pos trivial]
end
end Go.Proofs.Ytebdcblchjhmpaa.K

