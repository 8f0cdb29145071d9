/- TokenJoins: whatever two lists of bytes (2000 at most each): with a line's end between their words are the words of both. (The texts that the proof is made of, one behind the other: part 9 of 9.) -/
import Derived.Test.YthpemcchgebecaaProg
import Derived.Below
import Derived.Deep.Draws
import Derived.Deep.AppendLies
import Derived.Maps.AppendAt
import Derived.OwnWalk
import Derived.Laws.BytesArg
import Derived.Laws.MakeOwn
import Derived.Laws.OwnMore
import Derived.Deep.OwnRows
import Derived.Tactics
import Derived.Lib.ConvBytes
import Derived.Laws.Slices
import Derived.WalkKit
import Derived.KernelRfl
import Derived.RowKit3
import Derived.Deep.LoopGhost
import Derived.Deep.QuietTactic
import Derived.BigQuiet
import Derived.WideLaws
import Derived.Deep.DeepCutAuto
import Derived.Deep.CutBlock
import Derived.Deep.RegionHeld3
import Derived.Laws.Rows
import Derived.Lib.AppendStr
import Derived.ArgAppend
import Derived.Laws.IdiomCopy
import Derived.OrdersHeld
import Derived.Laws.BitsLemmas
import Derived.RowKit
import Derived.Lib.OthersKept
import Derived.WalkSmall
import Derived.Deep.RegionLaw
import Derived.BigRegion
import GoSem.Claim
import Derived.Test.YthpemcchgebecaaRows
import Derived.ProofKit
import Derived.OpenShut
import Derived.ShutString
import Derived.ChangeOld
import Derived.SizedLaws
import Derived.Test.YthpemcchgebecaaZTokenJoinsa
import Derived.Test.YthpemcchgebecaaZTokenJoinsb
import Derived.Test.YthpemcchgebecaaZTokenJoinsc
import Derived.Test.YthpemcchgebecaaZTokenJoinsd
import Derived.Test.YthpemcchgebecaaZTokenJoinse
import Derived.Test.YthpemcchgebecaaZTokenJoinsf
import Derived.Test.YthpemcchgebecaaZTokenJoinsg
import Derived.Test.YthpemcchgebecaaZTokenJoinsh
namespace Go.Proofs.Ythpemcchgebecaa.PTk
open Go.RowKit Go.Proofs.YthpemcchgebecaaW.PrintWords Go.Proofs.YthpemcchgebecaaW.PrintLast Go.Proofs.YthpemcchgebecaaW.PrintMore Go.Proofs.Ythpemcchgebecaa.K Go.Proofs.Ythpemcchgebecaa.PFold Go.Proofs.Ythpemcchgebecaa.PRf04 Go.Proofs.Ythpemcchgebecaa.PWd
attribute [local go_sem] max2_int min2_int max_two min_two max_three min_three max_four min_four   -- for this text's walks alone
set_option linter.unusedVariables false
set_option linter.unusedSimpArgs false

end Go.Proofs.Ythpemcchgebecaa.PTk

namespace Go.Proofs.Ythpemcchgebecaa.PTokenJoins
open Go.RowKit Go.Proofs.YthpemcchgebecaaW.PrintWords Go.Proofs.YthpemcchgebecaaW.PrintLast Go.Proofs.YthpemcchgebecaaW.PrintMore Go.Proofs.Ythpemcchgebecaa.K Go.Proofs.Ythpemcchgebecaa.PFold Go.Proofs.Ythpemcchgebecaa.PRf04 Go.Proofs.Ythpemcchgebecaa.PTk Go.Proofs.Ythpemcchgebecaa.PWd
attribute [local go_sem] max2_int min2_int max_two min_two max_three min_three max_four min_four   -- for this text's walks alone
set_option linter.unusedVariables false
set_option linter.unusedSimpArgs false



def errW : Option Int → Value
  | none => .nilIface
  | some c => .iface 0 (.int .i64 c)
theorem errW_none : errW none = .nilIface := rfl
theorem errW_some (c : Int) : errW (some c) = .iface 0 (.int .i64 c) := rfl

end Go.Proofs.Ythpemcchgebecaa.PTokenJoins

namespace Go.Proofs.Ythpemcchgebecaa.PTokenJoins
open Go.RowKit Go.Proofs.YthpemcchgebecaaW.PrintWords Go.Proofs.YthpemcchgebecaaW.PrintLast Go.Proofs.YthpemcchgebecaaW.PrintMore Go.Proofs.Ythpemcchgebecaa.K Go.Proofs.Ythpemcchgebecaa.PFold Go.Proofs.Ythpemcchgebecaa.PRf04 Go.Proofs.Ythpemcchgebecaa.PTk Go.Proofs.Ythpemcchgebecaa.PWd
attribute [local go_sem] max2_int min2_int max_two min_two max_three min_three max_four min_four   -- for this text's walks alone
set_option linter.unusedVariables false
set_option linter.unusedSimpArgs false

def manteletlaw07_TokenJoins.j0 : Nat → List Int → List Int → Bool → Bool → Option (Bool)
  | 0, _, _, _, _ => none
  | k + 1, x0, x1, x5, x15 => if x15 = true then (some x5) else ((some (([] : List Int) : List Int)).bind fun y102 => (if y102.length + x0.length < 140737488355328 then ((some (y102 ++ x0 : List Int)).bind fun y105 => (if y105.length < 140737488355328 then ((some (y105 ++ [10] : List Int)).bind fun y108 => (if y108.length + x1.length < 140737488355328 then (if x5 = true then ((token_All.f (y108 ++ x1)).bind fun t114 => ((some (([] : List ByteArray) : List ByteArray)).bind fun y117 => ((token_All.f x0).bind fun t120 => (if y117.length + t120.length < 8796093022208 then ((some (y117 ++ t120 : List ByteArray)).bind fun y123 => ((token_All.f x1).bind fun t126 => (if y123.length + t126.length < 8796093022208 then ((manteletref06_Same.f k t114 (y123 ++ t126)).bind fun t132 => (some t132)) else (none)))) else (none))))) else (some false)) else (none))) else (none))) else (none)))
def manteletlaw07_TokenJoins.f (k : Nat) (l0 : List Int) (l1 : List Int) : Option (Bool) := (manteletlaw07_shown.f k).bind fun t101 => (if (l0.length : Int) > 2000 then (manteletlaw07_TokenJoins.j0 k l0 l1 t101 true) else (manteletlaw07_TokenJoins.j0 k l0 l1 t101 (decide ((l1.length : Int) > 2000))))
set_option maxHeartbeats 8000000 in
set_option maxRecDepth 100000 in
theorem manteletlaw07_TokenJoins.calls (k : Nat) (A0 : Option Addr) (c0 : Nat) (l0 : List Int) (A1 : Option Addr) (c1 : Nat) (l1 : List Int) (r : Bool) (w : World) (hr0 : Kd.C (Kd.int .u8) w A0 l0.length l0) (hc0 : l0.length ≤ c0) (hr1 : Kd.C (Kd.int .u8) w A1 l1.length l1) (hc1 : l1.length ≤ c1) (h : manteletlaw07_TokenJoins.f k l0 l1 = some r) :
    Calls Try.prog 10 #[.slice A0 l0.length c0, .slice A1 l1.length c1] w fun e w' => e = .returned (.bool r) ∧ Below w.heap.size w w' := by
  have HR0 := Aside0.mk hr0
  have HC0 := Aside0.mk hc0
  clear hr0 hc0
  have HR1 := Aside0.mk hr1
  have HC1 := Aside0.mk hc1
  clear hr1 hc1
  have HB := Aside0.mk (Below.refl w.heap.size w)
  have H : ((manteletlaw07_shown.f k).bind fun t101 => (if (l0.length : Int) > 2000 then (manteletlaw07_TokenJoins.j0 k l0 l1 t101 true) else (manteletlaw07_TokenJoins.j0 k l0 l1 t101 (decide ((l1.length : Int) > 2000))))) = some r := h
  clear h
  replace H := Option.bind_eq_some_iff.mp H
  obtain ⟨t101, A30, H⟩ := H
  replace H : (if (l0.length : Int) > 2000 then (manteletlaw07_TokenJoins.j0 k l0 l1 t101 true) else (manteletlaw07_TokenJoins.j0 k l0 l1 t101 (decide ((l1.length : Int) > 2000)))) = some r := H
  have A3 := Aside0.mk A30
  clear A30
  have HC4 := Aside0.mk H
  clear H
  go_enter Try.func10, Try.ntmps10
  go_upto_region 2 with (first | ((with_reducible refine gate_callee (f := 20) rfl ?_); refine goesL_ (some 7) rfl rfl Try.func20 (by kernel_rfl) rfl #[] rfl (by (try simp only [List.map_toArray, List.map_cons, List.map_nil]); first | done | rfl | (simp only [List.length_drop, List.length_take]; rfl)) ?_; (with_reducible refine (manteletlaw07_shown.calls k  t101 _ A3.out).mono ?_); rintro e w5 ⟨rfl, hb⟩; refine ⟨_, rfl, ?_⟩; have n0_ := Aside0.mk (below_step (by repeat (first | (with_reducible first | exact HB.out | apply below_alloc | apply pw_below_drewN | apply below_drew1) | exact HB.out)) hb); clear HB; have HB := n0_; clear n0_; (try clear hb); (try clear hb2); (try clear hk); (try clear hi)))
  (try simp only [Act.put, List.setIfInBounds_toArray, List.set_cons_zero, List.set_cons_succ])
  go_cut [15] (fun v15 wc => ∃ (kq : Nat) (x15_3 : Bool), v15 = .bool x15_3 ∧ Aside0 (manteletlaw07_TokenJoins.j0 kq l0 l1 t101 x15_3 = some r) ∧ Aside0 (kq ≤ k) ∧ Aside0 (Below w.heap.size w wc))
  case first =>
    have H := HC4.out
    clear HC4
    by_cases c6 : (l0.length : Int) > 2000
    · rw [if_pos c6] at H
      have c6b0 : decide (2000 < (l0.length : Int)) = true := decide_eq_true c6
      have c6b1 : decide (2000 < l0.length) = true := decide_eq_true (by omega)
      clear c6
      (first | rw [c6b0] | (simp only [i64_w, i32_w]; rw [c6b0]) | skip)
      have H' := Aside0.mk H
      clear H
      go_wp2
      go_meet
      case rel => exact ⟨_, (true), (by first | rfl | (simp; done) | (simp [*]; done)), H', ⟨by first | omega | exact Nat.le_refl _⟩, ⟨by repeat (first | (with_reducible first | exact HB.out | apply below_alloc | apply pw_below_drewN | apply below_drew1) | exact HB.out)⟩⟩
    · rw [if_neg c6] at H
      have c6b0 : decide (2000 < (l0.length : Int)) = false := decide_eq_false c6
      have c6b1 : decide (2000 < l0.length) = false := decide_eq_false (by omega)
      clear c6
      (first | rw [c6b0] | (simp only [i64_w, i32_w]; rw [c6b0]) | skip)
      have H' := Aside0.mk H
      clear H
      go_wp2
      go_meet
      case rel => exact ⟨_, (decide ((l1.length : Int) > 2000)), (by first | rfl | (simp; done) | (simp [*]; done)), H', ⟨by first | omega | exact Nat.le_refl _⟩, ⟨by repeat (first | (with_reducible first | exact HB.out | apply below_alloc | apply pw_below_drewN | apply below_drew1) | exact HB.out)⟩⟩
  case rest =>
    clear HC4
    try clear c1
    try clear c2
    try clear p2
    try clear c6
    try clear c6b0
    try clear c6b1
    obtain ⟨kq, x15_3, rfl, HA, HJ3, HB⟩ := hcut
    cases kq with
    | zero => exact absurd HA.out (by simp [manteletlaw07_TokenJoins.j0])
    | succ kj3 =>
      have H := HA.out
      clear HA
      simp only [manteletlaw07_TokenJoins.j0] at H
      by_cases c7 : x15_3 = true
      · subst c7
        have H1 : (some t101) = some r := by rw [if_pos rfl] at H; exact H
        clear H
        have H := H1
        clear H1
        obtain rfl := Option.some.inj H
        go_wp2
        go_ret
        exact ⟨by first | rfl | (simp [errW_none, errW_some] <;> rfl) | (simp [*, errW_none, errW_some] <;> rfl), by repeat (first | (with_reducible first | exact HB.out | apply below_alloc | apply pw_below_drewN | apply below_drew1) | exact HB.out)⟩
      · replace c7 := Bool.eq_false_iff.mpr c7
        subst c7
        have H1 : ((some (([] : List Int) : List Int)).bind fun y102 => (if y102.length + l0.length < 140737488355328 then ((some (y102 ++ l0 : List Int)).bind fun y105 => (if y105.length < 140737488355328 then ((some (y105 ++ [10] : List Int)).bind fun y108 => (if y108.length + l1.length < 140737488355328 then (if t101 = true then ((token_All.f (y108 ++ l1)).bind fun t114 => ((some (([] : List ByteArray) : List ByteArray)).bind fun y117 => ((token_All.f l0).bind fun t120 => (if y117.length + t120.length < 8796093022208 then ((some (y117 ++ t120 : List ByteArray)).bind fun y123 => ((token_All.f l1).bind fun t126 => (if y123.length + t126.length < 8796093022208 then ((manteletref06_Same.f kj3 t114 (y123 ++ t126)).bind fun t132 => (some t132)) else (none)))) else (none))))) else (some false)) else (none))) else (none))) else (none))) = some r := by rw [if_neg (show ¬ (false = true) by decide)] at H; exact H
        clear H
        have H := H1
        clear H1
        obtain ⟨y102, hy102⟩ : ∃ y_ : List Int, y_ = (([] : List Int)) := ⟨_, rfl⟩
        replace H : (if y102.length + l0.length < 140737488355328 then ((some (y102 ++ l0 : List Int)).bind fun y105 => (if y105.length < 140737488355328 then ((some (y105 ++ [10] : List Int)).bind fun y108 => (if y108.length + l1.length < 140737488355328 then (if t101 = true then ((token_All.f (y108 ++ l1)).bind fun t114 => ((some (([] : List ByteArray) : List ByteArray)).bind fun y117 => ((token_All.f l0).bind fun t120 => (if y117.length + t120.length < 8796093022208 then ((some (y117 ++ t120 : List ByteArray)).bind fun y123 => ((token_All.f l1).bind fun t126 => (if y123.length + t126.length < 8796093022208 then ((manteletref06_Same.f kj3 t114 (y123 ++ t126)).bind fun t132 => (some t132)) else (none)))) else (none))))) else (some false)) else (none))) else (none))) else (none)) = some r := by first | (rw [hy102]; with_reducible exact H) | (have H2_ := (Option.bind_some _ _).symm.trans H; rw [hy102]; with_reducible exact H2_) | (have H2_ := (Option.bind_some _ _).symm.trans H; with_reducible exact H2_) | with_reducible exact H | (rw [hy102]; exact H) | exact H
        have Ny102 := Aside0.mk hy102
        clear hy102
        by_cases c8 : y102.length + l0.length < 140737488355328
        · rw [if_pos c8] at H
          have LMc8 := Aside0.mk c8
          clear c8
          obtain ⟨y105, hy105⟩ : ∃ y_ : List Int, y_ = (y102 ++ l0) := ⟨_, rfl⟩
          replace H : (if y105.length < 140737488355328 then ((some (y105 ++ [10] : List Int)).bind fun y108 => (if y108.length + l1.length < 140737488355328 then (if t101 = true then ((token_All.f (y108 ++ l1)).bind fun t114 => ((some (([] : List ByteArray) : List ByteArray)).bind fun y117 => ((token_All.f l0).bind fun t120 => (if y117.length + t120.length < 8796093022208 then ((some (y117 ++ t120 : List ByteArray)).bind fun y123 => ((token_All.f l1).bind fun t126 => (if y123.length + t126.length < 8796093022208 then ((manteletref06_Same.f kj3 t114 (y123 ++ t126)).bind fun t132 => (some t132)) else (none)))) else (none))))) else (some false)) else (none))) else (none)) = some r := by first | (rw [hy105]; with_reducible exact H) | (have H2_ := (Option.bind_some _ _).symm.trans H; rw [hy105]; with_reducible exact H2_) | (have H2_ := (Option.bind_some _ _).symm.trans H; with_reducible exact H2_) | with_reducible exact H | (rw [hy105]; exact H) | exact H
          have Ny105 := Aside0.mk hy105
          clear hy105
          by_cases c9 : y105.length < 140737488355328
          · rw [if_pos c9] at H
            have LMc9 := Aside0.mk c9
            clear c9
            obtain ⟨y108, hy108⟩ : ∃ y_ : List Int, y_ = (y105 ++ [10]) := ⟨_, rfl⟩
            replace H : (if y108.length + l1.length < 140737488355328 then (if t101 = true then ((token_All.f (y108 ++ l1)).bind fun t114 => ((some (([] : List ByteArray) : List ByteArray)).bind fun y117 => ((token_All.f l0).bind fun t120 => (if y117.length + t120.length < 8796093022208 then ((some (y117 ++ t120 : List ByteArray)).bind fun y123 => ((token_All.f l1).bind fun t126 => (if y123.length + t126.length < 8796093022208 then ((manteletref06_Same.f kj3 t114 (y123 ++ t126)).bind fun t132 => (some t132)) else (none)))) else (none))))) else (some false)) else (none)) = some r := by first | (rw [hy108]; with_reducible exact H) | (have H2_ := (Option.bind_some _ _).symm.trans H; rw [hy108]; with_reducible exact H2_) | (have H2_ := (Option.bind_some _ _).symm.trans H; with_reducible exact H2_) | with_reducible exact H | (rw [hy108]; exact H) | exact H
            have Ny108 := Aside0.mk hy108
            clear hy108
            by_cases c10 : y108.length + l1.length < 140737488355328
            · rw [if_pos c10] at H
              have LMc10 := Aside0.mk c10
              clear c10
              obtain ⟨y111, hy111⟩ : ∃ y_ : List Int, y_ = (y108 ++ l1) := ⟨_, rfl⟩
              replace H : (if t101 = true then ((token_All.f y111).bind fun t114 => ((some (([] : List ByteArray) : List ByteArray)).bind fun y117 => ((token_All.f l0).bind fun t120 => (if y117.length + t120.length < 8796093022208 then ((some (y117 ++ t120 : List ByteArray)).bind fun y123 => ((token_All.f l1).bind fun t126 => (if y123.length + t126.length < 8796093022208 then ((manteletref06_Same.f kj3 t114 (y123 ++ t126)).bind fun t132 => (some t132)) else (none)))) else (none))))) else (some false)) = some r := by first | (rw [hy111]; with_reducible exact H) | (have H2_ := (Option.bind_some _ _).symm.trans H; rw [hy111]; with_reducible exact H2_) | (have H2_ := (Option.bind_some _ _).symm.trans H; with_reducible exact H2_) | with_reducible exact H | (rw [hy111]; exact H) | exact H
              have Ny111 := Aside0.mk hy111
              clear hy111
              by_cases c11 : t101 = true
              · subst c11
                have H1 : ((token_All.f y111).bind fun t114 => ((some (([] : List ByteArray) : List ByteArray)).bind fun y117 => ((token_All.f l0).bind fun t120 => (if y117.length + t120.length < 8796093022208 then ((some (y117 ++ t120 : List ByteArray)).bind fun y123 => ((token_All.f l1).bind fun t126 => (if y123.length + t126.length < 8796093022208 then ((manteletref06_Same.f kj3 t114 (y123 ++ t126)).bind fun t132 => (some t132)) else (none)))) else (none))))) = some r := by rw [if_pos rfl] at H; exact H
                clear H
                have H := H1
                clear H1
                replace H := Option.bind_eq_some_iff.mp H
                obtain ⟨t114, A120, H⟩ := H
                replace H : ((some (([] : List ByteArray) : List ByteArray)).bind fun y117 => ((token_All.f l0).bind fun t120 => (if y117.length + t120.length < 8796093022208 then ((some (y117 ++ t120 : List ByteArray)).bind fun y123 => ((token_All.f l1).bind fun t126 => (if y123.length + t126.length < 8796093022208 then ((manteletref06_Same.f kj3 t114 (y123 ++ t126)).bind fun t132 => (some t132)) else (none)))) else (none)))) = some r := H
                have A12 := Aside0.mk A120
                clear A120
                obtain ⟨y117, hy117⟩ : ∃ y_ : List ByteArray, y_ = (([] : List ByteArray)) := ⟨_, rfl⟩
                replace H : ((token_All.f l0).bind fun t120 => (if y117.length + t120.length < 8796093022208 then ((some (y117 ++ t120 : List ByteArray)).bind fun y123 => ((token_All.f l1).bind fun t126 => (if y123.length + t126.length < 8796093022208 then ((manteletref06_Same.f kj3 t114 (y123 ++ t126)).bind fun t132 => (some t132)) else (none)))) else (none))) = some r := by first | (rw [hy117]; with_reducible exact H) | (have H2_ := (Option.bind_some _ _).symm.trans H; rw [hy117]; with_reducible exact H2_) | (have H2_ := (Option.bind_some _ _).symm.trans H; with_reducible exact H2_) | with_reducible exact H | (rw [hy117]; exact H) | exact H
                have Ny117 := Aside0.mk hy117
                clear hy117
                replace H := Option.bind_eq_some_iff.mp H
                obtain ⟨t120, A130, H⟩ := H
                replace H : (if y117.length + t120.length < 8796093022208 then ((some (y117 ++ t120 : List ByteArray)).bind fun y123 => ((token_All.f l1).bind fun t126 => (if y123.length + t126.length < 8796093022208 then ((manteletref06_Same.f kj3 t114 (y123 ++ t126)).bind fun t132 => (some t132)) else (none)))) else (none)) = some r := H
                have A13 := Aside0.mk A130
                clear A130
                by_cases c14 : y117.length + t120.length < 8796093022208
                · rw [if_pos c14] at H
                  have LMc14 := Aside0.mk c14
                  clear c14
                  obtain ⟨y123, hy123⟩ : ∃ y_ : List ByteArray, y_ = (y117 ++ t120) := ⟨_, rfl⟩
                  replace H : ((token_All.f l1).bind fun t126 => (if y123.length + t126.length < 8796093022208 then ((manteletref06_Same.f kj3 t114 (y123 ++ t126)).bind fun t132 => (some t132)) else (none))) = some r := by first | (rw [hy123]; with_reducible exact H) | (have H2_ := (Option.bind_some _ _).symm.trans H; rw [hy123]; with_reducible exact H2_) | (have H2_ := (Option.bind_some _ _).symm.trans H; with_reducible exact H2_) | with_reducible exact H | (rw [hy123]; exact H) | exact H
                  have Ny123 := Aside0.mk hy123
                  clear hy123
                  replace H := Option.bind_eq_some_iff.mp H
                  obtain ⟨t126, A150, H⟩ := H
                  replace H : (if y123.length + t126.length < 8796093022208 then ((manteletref06_Same.f kj3 t114 (y123 ++ t126)).bind fun t132 => (some t132)) else (none)) = some r := H
                  have A15 := Aside0.mk A150
                  clear A150
                  by_cases c16 : y123.length + t126.length < 8796093022208
                  · rw [if_pos c16] at H
                    have LMc16 := Aside0.mk c16
                    clear c16
                    obtain ⟨y129, hy129⟩ : ∃ y_ : List ByteArray, y_ = (y123 ++ t126) := ⟨_, rfl⟩
                    replace H : ((manteletref06_Same.f kj3 t114 y129).bind fun t132 => (some t132)) = some r := by first | (rw [hy129]; with_reducible exact H) | (have H2_ := (Option.bind_some _ _).symm.trans H; rw [hy129]; with_reducible exact H2_) | (have H2_ := (Option.bind_some _ _).symm.trans H; with_reducible exact H2_) | with_reducible exact H | (rw [hy129]; exact H) | exact H
                    have Ny129 := Aside0.mk hy129
                    clear hy129
                    replace H := Option.bind_eq_some_iff.mp H
                    obtain ⟨t132, A170, H⟩ := H
                    replace H : (some t132) = some r := H
                    have A17 := Aside0.mk A170
                    clear A170
                    obtain rfl := Option.some.inj H
                    go_wp2_with (first | ((with_reducible refine gate_dst (N := 17) rfl ?_); (try (refine gate_guard (by rfl) ?_; dsimp only)); refine Kd.R_lit (Kd.int .u8) _ 5 ?hg (N := 17) ?hd (xs := ([] : List Int)) (inner := []) (ok := fun _ => True) (okp := fun _ => True) ?hr ?hp (fun _ hk => hk) trivial (Below.refl _ _) (Nat.le_refl _) (by simp) ?_; (case hd => rfl); (case hg => rfl); (case hr => first | (go_simp; done) | (go_simp; rfl)); (case hp => exact (Reps.none _ _)); intro v103 w18 ho19 hb hg_ hnew_; clear hg_ hnew_; (first | rw [← Ny102.out] at ho19 | (simp only [Int.reduceToNat] at ho19; rw [← Ny102.out] at ho19)); have n0_ := Aside0.mk (Kd.R_lower ho19 (below_size (by repeat (first | (with_reducible first | exact HB.out | apply below_alloc | apply pw_below_drewN | apply below_drew1) | exact HB.out)))); have n1_ := Aside0.mk (below_step (by repeat (first | (with_reducible first | exact HB.out | apply below_alloc | apply pw_below_drewN | apply below_drew1) | exact HB.out)) hb); clear HB; have HO104 := n0_; have HB := n1_; clear n0_ n1_; clear hb ho19) | ((with_reducible refine gate_builtin (b := .append) (xs := #[.tmp 17, .tmp 18]) rfl ?_); (try (refine gate_guard (by rfl) ?_; dsimp only)); at_builtin; refine Kd.R_append_rows (Kd.int .u8) (w0 := w) w.heap.size rfl (.tmp 17) (.tmp 18) 31 5 (.int .u8 0) 1 rfl Try.underlying31 info5 rfl (by decide) (by omega) v103 y102 l0 _ _ _ (fun _ => True) (fun _ => False) rfl rfl ?aO ?aR (fun _ _ h => h) (fun _ h => h.elim) ?aF ?aB ?aS ?aL ?_; (case aR => repeat (first | exact (Kd.C_below HR0.out HB.out) | (with_reducible refine Kd.C_alloc ?_ _) | (with_reducible refine Kd.C_drewN ?_ _) | (with_reducible refine Kd.C_drew ?_))); (case aB => exact (by repeat (first | (with_reducible first | exact HB.out | apply below_alloc | apply pw_below_drewN | apply below_drew1) | exact HB.out))); (case aF => exact (fun _ _ => trivial)); (case aO => exact (by (with_reducible repeat (first | apply Kd.R_alloc | apply Kd.R_drewN | apply Kd.R_drew)); exact HO104.out)); (case aS => exact (below_size (by repeat (first | (with_reducible first | exact HB.out | apply below_alloc | apply pw_below_drewN | apply below_drew1) | exact HB.out)))); (case aL => have := LMc8.out; omega); intro v106 w20 ho hb hg hat; rw [← Ny105.out] at ho; have n0_ := Aside0.mk (hb); have n1_ := Aside0.mk (ho); clear HB; clear HO104; have HB := n0_; have HO107 := n1_; clear n0_ n1_; clear ho hb hg hat) | ((with_reducible refine gate_builtin (b := .append) (xs := #[.tmp 19, .tmp 20]) rfl ?_); (try (refine gate_guard (by rfl) ?_; dsimp only)); at_builtin; refine Kd.R_append (Kd.int .u8) (w0 := w) w.heap.size rfl (.tmp 19) (.tmp 20) 31 5 (.int .u8 0) 1 rfl Try.underlying31 info5 rfl (by decide) (by omega) v106 y105 10 [.int .u8 10] (fun _ => True) (fun _ => False) rfl rfl ?aP (fun _ hk => hk.elim) ?aF ?aO ?aB ?aS ?aL ?_; (case aP => exact rfl); (case aB => exact (by repeat (first | (with_reducible first | exact HB.out | apply below_alloc | apply pw_below_drewN | apply below_drew1) | exact HB.out))); (case aF => exact (fun _ _ => trivial)); (case aO => exact (by (with_reducible repeat (first | apply Kd.R_alloc | apply Kd.R_drewN | apply Kd.R_drew)); exact HO107.out)); (case aS => exact (below_size (by repeat (first | (with_reducible first | exact HB.out | apply below_alloc | apply pw_below_drewN | apply below_drew1) | exact HB.out)))); (case aL => have := LMc9.out; omega); intro v109 w21 ho hb hg hat; rw [← Ny108.out] at ho; have n0_ := Aside0.mk (hb); have n1_ := Aside0.mk (ho); clear HB; clear HO107; have HB := n0_; have HO110 := n1_; clear n0_ n1_; clear ho hb hg hat) | ((with_reducible refine gate_builtin (b := .append) (xs := #[.tmp 21, .tmp 22]) rfl ?_); (try (refine gate_guard (by rfl) ?_; dsimp only)); at_builtin; refine Kd.R_append_rows (Kd.int .u8) (w0 := w) w.heap.size rfl (.tmp 21) (.tmp 22) 31 5 (.int .u8 0) 1 rfl Try.underlying31 info5 rfl (by decide) (by omega) v109 y108 l1 _ _ _ (fun _ => True) (fun _ => False) rfl rfl ?aO ?aR (fun _ _ h => h) (fun _ h => h.elim) ?aF ?aB ?aS ?aL ?_; (case aR => repeat (first | exact (Kd.C_below HR1.out HB.out) | (with_reducible refine Kd.C_alloc ?_ _) | (with_reducible refine Kd.C_drewN ?_ _) | (with_reducible refine Kd.C_drew ?_))); (case aB => exact (by repeat (first | (with_reducible first | exact HB.out | apply below_alloc | apply pw_below_drewN | apply below_drew1) | exact HB.out))); (case aF => exact (fun _ _ => trivial)); (case aO => exact (by (with_reducible repeat (first | apply Kd.R_alloc | apply Kd.R_drewN | apply Kd.R_drew)); exact HO110.out)); (case aS => exact (below_size (by repeat (first | (with_reducible first | exact HB.out | apply below_alloc | apply pw_below_drewN | apply below_drew1) | exact HB.out)))); (case aL => have := LMc10.out; omega); intro v112 w22 ho hb hg hat; rw [← Ny111.out] at ho; have n0_ := Aside0.mk (hb); have n1_ := Aside0.mk (ho); clear HB; clear HO110; have HB := n0_; have HO113 := n1_; clear n0_ n1_; clear ho hb hg hat; obtain ⟨Ao23, co23, eo23⟩ := Kd.R_slice HO113.out; subst eo23) | (go_at_call 22; (with_reducible refine (token_All.calls _ _ y111 t114 _ ?side1 ?side2 A12.out).mono ?_); (case side1 => repeat (first | exact (Kd.R_reads' HO113.out).2.2 | (with_reducible refine Kd.C_alloc ?_ _) | (with_reducible refine Kd.C_drewN ?_ _) | (with_reducible refine Kd.C_drew ?_))); (case side2 => exact (Kd.R_reads' HO113.out).2.1); rintro e w24 ⟨v115, rfl, ho0, hb⟩; have n0_ := Aside0.mk (Kd.R_below (by (with_reducible repeat (first | apply Kd.R_alloc | apply Kd.R_drewN | apply Kd.R_drew)); exact HO113.out) hb); have n1_ := Aside0.mk (Kd.R_lower ho0 (below_size (by repeat (first | (with_reducible first | exact HB.out | apply below_alloc | apply pw_below_drewN | apply below_drew1) | exact HB.out)))); have n2_ := Aside0.mk (below_step (by repeat (first | (with_reducible first | exact HB.out | apply below_alloc | apply pw_below_drewN | apply below_drew1) | exact HB.out)) hb); clear HO113; clear HB; have HO113 := n0_; have HO116 := n1_; have HB := n2_; clear n0_ n1_ n2_; (try clear hb); (try clear hb2); (try clear hk); (try clear hi); (try clear ho0)) | ((with_reducible refine gate_dst (N := 28) rfl ?_); (try (refine gate_guard (by rfl) ?_; dsimp only)); refine Kd.R_lit Kd.string _ 9 ?hg (N := 28) ?hd (xs := ([] : List ByteArray)) (inner := []) (ok := fun _ => True) (okp := fun _ => True) ?hr ?hp (fun _ hk => hk) trivial (Below.refl _ _) (Nat.le_refl _) (by simp) ?_; (case hd => rfl); (case hg => rfl); (case hr => first | (go_simp; done) | (go_simp; rfl)); (case hp => exact (Reps.none _ _)); intro v118 w25 ho26 hb hg_ hnew_; clear hg_ hnew_; (first | rw [← Ny117.out] at ho26 | (simp only [Int.reduceToNat] at ho26; rw [← Ny117.out] at ho26)); have n0_ := Aside0.mk (Kd.R_below (by (with_reducible repeat (first | apply Kd.R_alloc | apply Kd.R_drewN | apply Kd.R_drew)); exact HO113.out) hb); have n1_ := Aside0.mk (Kd.R_elder' (by (with_reducible repeat (first | apply Kd.R_alloc | apply Kd.R_drewN | apply Kd.R_drew)); exact HO116.out) (Kd.R_base ho26) hb); have n2_ := Aside0.mk (Kd.R_lower (Kd.R_new' ho26 (Kd.R_lt (by (with_reducible repeat (first | apply Kd.R_alloc | apply Kd.R_drewN | apply Kd.R_drew)); exact HO116.out))) (below_size (by repeat (first | (with_reducible first | exact HB.out | apply below_alloc | apply pw_below_drewN | apply below_drew1) | exact HB.out)))); have n3_ := Aside0.mk (below_step (by repeat (first | (with_reducible first | exact HB.out | apply below_alloc | apply pw_below_drewN | apply below_drew1) | exact HB.out)) hb); clear HO113; clear HO116; clear HB; have HO113 := n0_; have HO116 := n1_; have HO119 := n2_; have HB := n3_; clear n0_ n1_ n2_ n3_; clear hb ho26) | (go_at_call 22; (with_reducible refine (token_All.calls _ _ l0 t120 _ ?side1 ?side2 A13.out).mono ?_); (case side1 => repeat (first | exact (Kd.C_below HR0.out HB.out) | (with_reducible refine Kd.C_alloc ?_ _) | (with_reducible refine Kd.C_drewN ?_ _) | (with_reducible refine Kd.C_drew ?_))); (case side2 => exact HC0.out); rintro e w27 ⟨v121, rfl, ho0, hb⟩; have n0_ := Aside0.mk (Kd.R_below (by (with_reducible repeat (first | apply Kd.R_alloc | apply Kd.R_drewN | apply Kd.R_drew)); exact HO113.out) hb); have n1_ := Aside0.mk (Kd.R_elder' (by (with_reducible repeat (first | apply Kd.R_alloc | apply Kd.R_drewN | apply Kd.R_drew)); exact HO116.out) (Kd.R_base ho0) hb); have n2_ := Aside0.mk (Kd.R_elder' (by (with_reducible repeat (first | apply Kd.R_alloc | apply Kd.R_drewN | apply Kd.R_drew)); exact HO119.out) (Kd.R_base ho0) hb); have n3_ := Aside0.mk (Kd.R_lower (Kd.R_new' (Kd.R_new' ho0 (Kd.R_lt (by (with_reducible repeat (first | apply Kd.R_alloc | apply Kd.R_drewN | apply Kd.R_drew)); exact HO116.out))) (Kd.R_lt (by (with_reducible repeat (first | apply Kd.R_alloc | apply Kd.R_drewN | apply Kd.R_drew)); exact HO119.out))) (below_size (by repeat (first | (with_reducible first | exact HB.out | apply below_alloc | apply pw_below_drewN | apply below_drew1) | exact HB.out)))); have n4_ := Aside0.mk (below_step (by repeat (first | (with_reducible first | exact HB.out | apply below_alloc | apply pw_below_drewN | apply below_drew1) | exact HB.out)) hb); clear HO113; clear HO116; clear HO119; clear HB; have HO113 := n0_; have HO116 := n1_; have HO119 := n2_; have HO122 := n3_; have HB := n4_; clear n0_ n1_ n2_ n3_ n4_; (try clear hb); (try clear hb2); (try clear hk); (try clear hi); (try clear ho0); obtain ⟨Ao29, co29, eo29⟩ := Kd.R_slice HO122.out; subst eo29) | ((with_reducible refine gate_builtin (b := .append) (xs := #[.tmp 28, .tmp 30]) rfl ?_); (try (refine gate_guard (by rfl) ?_; dsimp only)); at_builtin; refine Kd.R_append_rows Kd.string (w0 := w) w.heap.size rfl (.tmp 28) (.tmp 30) 34 9 (.string ⟨#[]⟩) 16 rfl Try.underlying34 info9 rfl (by decide) (by omega) v118 y117 t120 _ _ _ (fun k_ => some k_ ≠ (v115 : Value).ownBlock ∧ some k_ ≠ (.slice Ao29 t120.length co29 : Value).ownBlock) (fun _ => False) rfl rfl ?aO ?aR (fun _ _ h => h) (fun _ h => h.elim) ?aF ?aB ?aS ?aL ?_; (case aR => repeat (first | exact (Kd.R_reads' HO122.out).2.2 | (with_reducible refine Kd.C_alloc ?_ _) | (with_reducible refine Kd.C_drewN ?_ _) | (with_reducible refine Kd.C_drew ?_))); (case aB => exact (by repeat (first | (with_reducible first | exact HB.out | apply below_alloc | apply pw_below_drewN | apply below_drew1) | exact HB.out))); (case aF => exact (fun k_ hk => ⟨Kd.fresh' (Kd.R_lt (by (with_reducible repeat (first | apply Kd.R_alloc | apply Kd.R_drewN | apply Kd.R_drew)); exact HO116.out)) k_ hk, Kd.fresh' (Kd.R_lt (by (with_reducible repeat (first | apply Kd.R_alloc | apply Kd.R_drewN | apply Kd.R_drew)); exact HO122.out)) k_ hk⟩)); (case aO => exact (by (with_reducible repeat (first | apply Kd.R_alloc | apply Kd.R_drewN | apply Kd.R_drew)); exact Kd.R_mono HO119.out (fun _ hk => ⟨hk.1.2, hk.2⟩))); (case aS => exact (below_size (by repeat (first | (with_reducible first | exact HB.out | apply below_alloc | apply pw_below_drewN | apply below_drew1) | exact HB.out)))); (case aL => have := LMc14.out; omega); intro v124 w28 ho hb hg hat; rw [← Ny123.out] at ho; have n0_ := Aside0.mk (Kd.R_over' (by (with_reducible repeat (first | apply Kd.R_alloc | apply Kd.R_drewN | apply Kd.R_drew)); exact HO113.out) (Kd.R_typed (by (with_reducible repeat (first | apply Kd.R_alloc | apply Kd.R_drewN | apply Kd.R_drew)); exact HO119.out)) (by decide) hg); have n1_ := Aside0.mk (Kd.R_after (ok := (fun k_ => some k_ ≠ (.slice Ao29 t120.length co29 : Value).ownBlock)) (by (with_reducible repeat (first | apply Kd.R_alloc | apply Kd.R_drewN | apply Kd.R_drew)); exact Kd.R_mono HO116.out (fun _ hk => ⟨hk.2, hk.1.2⟩)) hg hat); have n2_ := Aside0.mk (Kd.R_after (ok := (fun k_ => some k_ ≠ (v115 : Value).ownBlock)) (by (with_reducible repeat (first | apply Kd.R_alloc | apply Kd.R_drewN | apply Kd.R_drew)); exact Kd.R_mono HO122.out (fun _ hk => ⟨hk.1.2, hk.2⟩)) hg hat); have n3_ := Aside0.mk (hb); have n4_ := Aside0.mk (ho); clear HO113; clear HO116; clear HO122; clear HB; clear HO119; have HO113 := n0_; have HO116 := n1_; have HO122 := n2_; have HB := n3_; have HO125 := n4_; clear n0_ n1_ n2_ n3_ n4_; clear ho hb hg hat) | (go_at_call 22; (with_reducible refine (token_All.calls _ _ l1 t126 _ ?side1 ?side2 A15.out).mono ?_); (case side1 => repeat (first | exact (Kd.C_below HR1.out HB.out) | (with_reducible refine Kd.C_alloc ?_ _) | (with_reducible refine Kd.C_drewN ?_ _) | (with_reducible refine Kd.C_drew ?_))); (case side2 => exact HC1.out); rintro e w30 ⟨v127, rfl, ho0, hb⟩; have n0_ := Aside0.mk (Kd.R_below (by (with_reducible repeat (first | apply Kd.R_alloc | apply Kd.R_drewN | apply Kd.R_drew)); exact HO113.out) hb); have n1_ := Aside0.mk (Kd.R_elder' (by (with_reducible repeat (first | apply Kd.R_alloc | apply Kd.R_drewN | apply Kd.R_drew)); exact HO116.out) (Kd.R_base ho0) hb); have n2_ := Aside0.mk (Kd.R_elder' (by (with_reducible repeat (first | apply Kd.R_alloc | apply Kd.R_drewN | apply Kd.R_drew)); exact HO122.out) (Kd.R_base ho0) hb); have n3_ := Aside0.mk (Kd.R_elder' (by (with_reducible repeat (first | apply Kd.R_alloc | apply Kd.R_drewN | apply Kd.R_drew)); exact HO125.out) (Kd.R_base ho0) hb); have n4_ := Aside0.mk (Kd.R_lower (Kd.R_new' (Kd.R_new' (Kd.R_new' ho0 (Kd.R_lt (by (with_reducible repeat (first | apply Kd.R_alloc | apply Kd.R_drewN | apply Kd.R_drew)); exact HO116.out))) (Kd.R_lt (by (with_reducible repeat (first | apply Kd.R_alloc | apply Kd.R_drewN | apply Kd.R_drew)); exact HO122.out))) (Kd.R_lt (by (with_reducible repeat (first | apply Kd.R_alloc | apply Kd.R_drewN | apply Kd.R_drew)); exact HO125.out))) (below_size (by repeat (first | (with_reducible first | exact HB.out | apply below_alloc | apply pw_below_drewN | apply below_drew1) | exact HB.out)))); have n5_ := Aside0.mk (below_step (by repeat (first | (with_reducible first | exact HB.out | apply below_alloc | apply pw_below_drewN | apply below_drew1) | exact HB.out)) hb); clear HO113; clear HO116; clear HO122; clear HO125; clear HB; have HO113 := n0_; have HO116 := n1_; have HO122 := n2_; have HO125 := n3_; have HO128 := n4_; have HB := n5_; clear n0_ n1_ n2_ n3_ n4_ n5_; (try clear hb); (try clear hb2); (try clear hk); (try clear hi); (try clear ho0); obtain ⟨Ao32, co32, eo32⟩ := Kd.R_slice HO128.out; subst eo32) | ((with_reducible refine gate_builtin (b := .append) (xs := #[.tmp 31, .tmp 33]) rfl ?_); (try (refine gate_guard (by rfl) ?_; dsimp only)); at_builtin; refine Kd.R_append_rows Kd.string (w0 := w) w.heap.size rfl (.tmp 31) (.tmp 33) 34 9 (.string ⟨#[]⟩) 16 rfl Try.underlying34 info9 rfl (by decide) (by omega) v124 y123 t126 _ _ _ (fun k_ => some k_ ≠ (v115 : Value).ownBlock ∧ some k_ ≠ (.slice Ao29 t120.length co29 : Value).ownBlock ∧ some k_ ≠ (.slice Ao32 t126.length co32 : Value).ownBlock) (fun _ => False) rfl rfl ?aO ?aR (fun _ _ h => h) (fun _ h => h.elim) ?aF ?aB ?aS ?aL ?_; (case aR => repeat (first | exact (Kd.R_reads' HO128.out).2.2 | (with_reducible refine Kd.C_alloc ?_ _) | (with_reducible refine Kd.C_drewN ?_ _) | (with_reducible refine Kd.C_drew ?_))); (case aB => exact (by repeat (first | (with_reducible first | exact HB.out | apply below_alloc | apply pw_below_drewN | apply below_drew1) | exact HB.out))); (case aF => exact (fun k_ hk => ⟨Kd.fresh' (Kd.R_lt (by (with_reducible repeat (first | apply Kd.R_alloc | apply Kd.R_drewN | apply Kd.R_drew)); exact HO116.out)) k_ hk, Kd.fresh' (Kd.R_lt (by (with_reducible repeat (first | apply Kd.R_alloc | apply Kd.R_drewN | apply Kd.R_drew)); exact HO122.out)) k_ hk, Kd.fresh' (Kd.R_lt (by (with_reducible repeat (first | apply Kd.R_alloc | apply Kd.R_drewN | apply Kd.R_drew)); exact HO128.out)) k_ hk⟩)); (case aO => exact (by (with_reducible repeat (first | apply Kd.R_alloc | apply Kd.R_drewN | apply Kd.R_drew)); exact Kd.R_mono HO125.out (fun _ hk => ⟨hk.1.1, ⟨hk.1.2, hk.2⟩⟩))); (case aS => exact (below_size (by repeat (first | (with_reducible first | exact HB.out | apply below_alloc | apply pw_below_drewN | apply below_drew1) | exact HB.out)))); (case aL => have := LMc16.out; omega); intro v130 w31 ho hb hg hat; rw [← Ny129.out] at ho; have n0_ := Aside0.mk (Kd.R_over' (by (with_reducible repeat (first | apply Kd.R_alloc | apply Kd.R_drewN | apply Kd.R_drew)); exact HO113.out) (Kd.R_typed (by (with_reducible repeat (first | apply Kd.R_alloc | apply Kd.R_drewN | apply Kd.R_drew)); exact HO125.out)) (by decide) hg); have n1_ := Aside0.mk (Kd.R_after (ok := (fun k_ => some k_ ≠ (.slice Ao29 t120.length co29 : Value).ownBlock ∧ some k_ ≠ (.slice Ao32 t126.length co32 : Value).ownBlock)) (by (with_reducible repeat (first | apply Kd.R_alloc | apply Kd.R_drewN | apply Kd.R_drew)); exact Kd.R_mono HO116.out (fun _ hk => ⟨⟨hk.1.1, hk.2⟩, hk.1.2⟩)) hg hat); have n2_ := Aside0.mk (Kd.R_after (ok := (fun k_ => some k_ ≠ (v115 : Value).ownBlock ∧ some k_ ≠ (.slice Ao32 t126.length co32 : Value).ownBlock)) (by (with_reducible repeat (first | apply Kd.R_alloc | apply Kd.R_drewN | apply Kd.R_drew)); exact Kd.R_mono HO122.out (fun _ hk => ⟨⟨hk.1.1, hk.2⟩, hk.1.2⟩)) hg hat); have n3_ := Aside0.mk (Kd.R_after (ok := (fun k_ => some k_ ≠ (v115 : Value).ownBlock ∧ some k_ ≠ (.slice Ao29 t120.length co29 : Value).ownBlock)) (by (with_reducible repeat (first | apply Kd.R_alloc | apply Kd.R_drewN | apply Kd.R_drew)); exact Kd.R_mono HO128.out (fun _ hk => ⟨⟨hk.1.1.2, hk.1.2⟩, hk.2⟩)) hg hat); have n4_ := Aside0.mk (hb); have n5_ := Aside0.mk (ho); clear HO113; clear HO116; clear HO122; clear HO128; clear HB; clear HO125; have HO113 := n0_; have HO116 := n1_; have HO122 := n2_; have HO128 := n3_; have HB := n4_; have HO131 := n5_; clear n0_ n1_ n2_ n3_ n4_ n5_; clear ho hb hg hat; obtain ⟨Ao33, co33, eo33⟩ := Kd.R_slice HO116.out; subst eo33; obtain ⟨Ao34, co34, eo34⟩ := Kd.R_slice HO131.out; subst eo34) | (go_at_call 21; (with_reducible refine (manteletref06_Same.calls kj3 _ _ t114 _ _ y129 t132 _ ?side1 ?side2 ?side3 ?side4 A17.out).mono ?_); (case side1 => repeat (first | exact (Kd.R_reads' HO116.out).2.2 | (with_reducible refine Kd.C_alloc ?_ _) | (with_reducible refine Kd.C_drewN ?_ _) | (with_reducible refine Kd.C_drew ?_))); (case side2 => exact (Kd.R_reads' HO116.out).2.1); (case side3 => repeat (first | exact (Kd.R_reads' HO131.out).2.2 | (with_reducible refine Kd.C_alloc ?_ _) | (with_reducible refine Kd.C_drewN ?_ _) | (with_reducible refine Kd.C_drew ?_))); (case side4 => exact (Kd.R_reads' HO131.out).2.1); rintro e w' ⟨rfl, ⟨nd, rfl⟩⟩))
                    go_ret
                    exact ⟨by first | rfl | (simp [errW_none, errW_some] <;> rfl) | (simp [*, errW_none, errW_some] <;> rfl), by repeat (first | (with_reducible first | exact HB.out | apply below_alloc | apply pw_below_drewN | apply below_drew1) | exact HB.out)⟩
                  · rw [if_neg c16] at H
                    exact absurd H (by simp)
                · rw [if_neg c14] at H
                  exact absurd H (by simp)
              · replace c11 := Bool.eq_false_iff.mpr c11
                subst c11
                have H1 : (some false) = some r := by rw [if_neg (show ¬ (false = true) by decide)] at H; exact H
                clear H
                have H := H1
                clear H1
                obtain rfl := Option.some.inj H
                go_wp2_with (first | ((with_reducible refine gate_dst (N := 17) rfl ?_); (try (refine gate_guard (by rfl) ?_; dsimp only)); refine Kd.R_lit (Kd.int .u8) _ 5 ?hg (N := 17) ?hd (xs := ([] : List Int)) (inner := []) (ok := fun _ => True) (okp := fun _ => True) ?hr ?hp (fun _ hk => hk) trivial (Below.refl _ _) (Nat.le_refl _) (by simp) ?_; (case hd => rfl); (case hg => rfl); (case hr => first | (go_simp; done) | (go_simp; rfl)); (case hp => exact (Reps.none _ _)); intro v103 w35 ho36 hb hg_ hnew_; clear hg_ hnew_; (first | rw [← Ny102.out] at ho36 | (simp only [Int.reduceToNat] at ho36; rw [← Ny102.out] at ho36)); have n0_ := Aside0.mk (Kd.R_lower ho36 (below_size (by repeat (first | (with_reducible first | exact HB.out | apply below_alloc | apply pw_below_drewN | apply below_drew1) | exact HB.out)))); have n1_ := Aside0.mk (below_step (by repeat (first | (with_reducible first | exact HB.out | apply below_alloc | apply pw_below_drewN | apply below_drew1) | exact HB.out)) hb); clear HB; have HO104 := n0_; have HB := n1_; clear n0_ n1_; clear hb ho36) | ((with_reducible refine gate_builtin (b := .append) (xs := #[.tmp 17, .tmp 18]) rfl ?_); (try (refine gate_guard (by rfl) ?_; dsimp only)); at_builtin; refine Kd.R_append_rows (Kd.int .u8) (w0 := w) w.heap.size rfl (.tmp 17) (.tmp 18) 31 5 (.int .u8 0) 1 rfl Try.underlying31 info5 rfl (by decide) (by omega) v103 y102 l0 _ _ _ (fun _ => True) (fun _ => False) rfl rfl ?aO ?aR (fun _ _ h => h) (fun _ h => h.elim) ?aF ?aB ?aS ?aL ?_; (case aR => repeat (first | exact (Kd.C_below HR0.out HB.out) | (with_reducible refine Kd.C_alloc ?_ _) | (with_reducible refine Kd.C_drewN ?_ _) | (with_reducible refine Kd.C_drew ?_))); (case aB => exact (by repeat (first | (with_reducible first | exact HB.out | apply below_alloc | apply pw_below_drewN | apply below_drew1) | exact HB.out))); (case aF => exact (fun _ _ => trivial)); (case aO => exact (by (with_reducible repeat (first | apply Kd.R_alloc | apply Kd.R_drewN | apply Kd.R_drew)); exact HO104.out)); (case aS => exact (below_size (by repeat (first | (with_reducible first | exact HB.out | apply below_alloc | apply pw_below_drewN | apply below_drew1) | exact HB.out)))); (case aL => have := LMc8.out; omega); intro v106 w37 ho hb hg hat; rw [← Ny105.out] at ho; have n0_ := Aside0.mk (hb); have n1_ := Aside0.mk (ho); clear HB; clear HO104; have HB := n0_; have HO107 := n1_; clear n0_ n1_; clear ho hb hg hat) | ((with_reducible refine gate_builtin (b := .append) (xs := #[.tmp 19, .tmp 20]) rfl ?_); (try (refine gate_guard (by rfl) ?_; dsimp only)); at_builtin; refine Kd.R_append (Kd.int .u8) (w0 := w) w.heap.size rfl (.tmp 19) (.tmp 20) 31 5 (.int .u8 0) 1 rfl Try.underlying31 info5 rfl (by decide) (by omega) v106 y105 10 [.int .u8 10] (fun _ => True) (fun _ => False) rfl rfl ?aP (fun _ hk => hk.elim) ?aF ?aO ?aB ?aS ?aL ?_; (case aP => exact rfl); (case aB => exact (by repeat (first | (with_reducible first | exact HB.out | apply below_alloc | apply pw_below_drewN | apply below_drew1) | exact HB.out))); (case aF => exact (fun _ _ => trivial)); (case aO => exact (by (with_reducible repeat (first | apply Kd.R_alloc | apply Kd.R_drewN | apply Kd.R_drew)); exact HO107.out)); (case aS => exact (below_size (by repeat (first | (with_reducible first | exact HB.out | apply below_alloc | apply pw_below_drewN | apply below_drew1) | exact HB.out)))); (case aL => have := LMc9.out; omega); intro v109 w38 ho hb hg hat; rw [← Ny108.out] at ho; have n0_ := Aside0.mk (hb); have n1_ := Aside0.mk (ho); clear HB; clear HO107; have HB := n0_; have HO110 := n1_; clear n0_ n1_; clear ho hb hg hat) | ((with_reducible refine gate_builtin (b := .append) (xs := #[.tmp 21, .tmp 22]) rfl ?_); (try (refine gate_guard (by rfl) ?_; dsimp only)); at_builtin; refine Kd.R_append_rows (Kd.int .u8) (w0 := w) w.heap.size rfl (.tmp 21) (.tmp 22) 31 5 (.int .u8 0) 1 rfl Try.underlying31 info5 rfl (by decide) (by omega) v109 y108 l1 _ _ _ (fun _ => True) (fun _ => False) rfl rfl ?aO ?aR (fun _ _ h => h) (fun _ h => h.elim) ?aF ?aB ?aS ?aL ?_; (case aR => repeat (first | exact (Kd.C_below HR1.out HB.out) | (with_reducible refine Kd.C_alloc ?_ _) | (with_reducible refine Kd.C_drewN ?_ _) | (with_reducible refine Kd.C_drew ?_))); (case aB => exact (by repeat (first | (with_reducible first | exact HB.out | apply below_alloc | apply pw_below_drewN | apply below_drew1) | exact HB.out))); (case aF => exact (fun _ _ => trivial)); (case aO => exact (by (with_reducible repeat (first | apply Kd.R_alloc | apply Kd.R_drewN | apply Kd.R_drew)); exact HO110.out)); (case aS => exact (below_size (by repeat (first | (with_reducible first | exact HB.out | apply below_alloc | apply pw_below_drewN | apply below_drew1) | exact HB.out)))); (case aL => have := LMc10.out; omega); intro v112 w39 ho hb hg hat; rw [← Ny111.out] at ho; have n0_ := Aside0.mk (hb); have n1_ := Aside0.mk (ho); clear HB; clear HO110; have HB := n0_; have HO113 := n1_; clear n0_ n1_; clear ho hb hg hat))
                go_ret
                exact ⟨by first | rfl | (simp [errW_none, errW_some] <;> rfl) | (simp [*, errW_none, errW_some] <;> rfl), by repeat (first | (with_reducible first | exact HB.out | apply below_alloc | apply pw_below_drewN | apply below_drew1) | exact HB.out)⟩
            · rw [if_neg c10] at H
              exact absurd H (by simp)
          · rw [if_neg c9] at H
            exact absurd H (by simp)
        · rw [if_neg c8] at H
          exact absurd H (by simp)

/-- THE ONE PURE STATEMENT of manteletlaw07_TokenJoins: yours. -/
def manteletlaw07_TokenJoins.Pure : Prop := ∀ (l0 : List Int) (l1 : List Int), l0.length ≤ maxLen → l0.length * 1 ≤ 140737488351232 → (∀ x ∈ l0, (Lit.int .u8 x).wf = true) → l1.length ≤ maxLen → l1.length * 1 ≤ 140737488351232 → (∀ x ∈ l1, (Lit.int .u8 x).wf = true) → ∃ k, manteletlaw07_TokenJoins.f k l0 l1 = some true
theorem manteletlaw07_TokenJoins.walk (P : manteletlaw07_TokenJoins.Pure) (a0 : Option Addr) (len0 cap0 : Nat) (z0 : List Int) (a1 : Option Addr) (len1 cap1 : Nat) (z1 : List Int) (w : World) (w0 : (a0 = none ∧ len0 = 0 ∧ cap0 = 0 ∧ z0 = []) ∨ ∃ x, a0 = some x ∧ len0 ≤ cap0 ∧ cap0 ≤ maxLen ∧ z0.length = cap0 ∧ (∀ i, i < z0.length → w.cell? (x.add i) = some (.int .u8 (z0.getD i 0))) ∧ ∀ n ∈ z0, (Lit.int .u8 n).wf = true) (y0 : len0 * 1 ≤ 140737488351232) (w1 : (a1 = none ∧ len1 = 0 ∧ cap1 = 0 ∧ z1 = []) ∨ ∃ x, a1 = some x ∧ len1 ≤ cap1 ∧ cap1 ≤ maxLen ∧ z1.length = cap1 ∧ (∀ i, i < z1.length → w.cell? (x.add i) = some (.int .u8 (z1.getD i 0))) ∧ ∀ n ∈ z1, (Lit.int .u8 n).wf = true) (y1 : len1 * 1 ≤ 140737488351232) :
    Calls Try.prog 10 #[.slice a0 len0 cap0, .slice a1 len1 cap1] w fun e w' => e = .returned (.bool true) ∧ Below w.heap.size w w' := by
  obtain ⟨l0, rfl, hr0, hm0, hw0, hc0⟩ := ReadsInt.ofRowC w0
  obtain ⟨l1, rfl, hr1, hm1, hw1, hc1⟩ := ReadsInt.ofRowC w1
  obtain ⟨k, h⟩ := P l0 l1 hm0 y0 hw0 hm1 y1 hw1
  refine (manteletlaw07_TokenJoins.calls k _ _ l0 _ _ l1 true w (Kd.C_of_reads (d := (0 : Int)) (h1 := fun _ => rfl) hr0) hc0 (Kd.C_of_reads (d := (0 : Int)) (h1 := fun _ => rfl) hr1) hc1 h).mono ?_
  rintro e w' ⟨rfl, hd⟩
  exact ⟨rfl, hd⟩

end Go.Proofs.Ythpemcchgebecaa.PTokenJoins

namespace Go.Proofs.Ythpemcchgebecaa.PSh05
open Go.RowKit Go.Proofs.YthpemcchgebecaaW.PrintWords Go.Proofs.YthpemcchgebecaaW.PrintLast Go.Proofs.YthpemcchgebecaaW.PrintMore Go.Proofs.Ythpemcchgebecaa.K Go.Proofs.Ythpemcchgebecaa.PFold
attribute [local go_sem] max2_int min2_int max_two min_two max_three min_three max_four min_four   -- for this text's walks alone
set_option linter.unusedVariables false
set_option linter.unusedSimpArgs false



def errW : Option Int → Value
  | none => .nilIface
  | some c => .iface 0 (.int .i64 c)
theorem errW_none : errW none = .nilIface := rfl
theorem errW_some (c : Int) : errW (some c) = .iface 0 (.int .i64 c) := rfl

end Go.Proofs.Ythpemcchgebecaa.PSh05

namespace Go.Proofs.Ythpemcchgebecaa.PSh05
open Go.RowKit Go.Proofs.YthpemcchgebecaaW.PrintWords Go.Proofs.YthpemcchgebecaaW.PrintLast Go.Proofs.YthpemcchgebecaaW.PrintMore Go.Proofs.Ythpemcchgebecaa.K Go.Proofs.Ythpemcchgebecaa.PFold
attribute [local go_sem] max2_int min2_int max_two min_two max_three min_three max_four min_four   -- for this text's walks alone
set_option linter.unusedVariables false
set_option linter.unusedSimpArgs false

def manteletlaw05_shown.f (k : Nat)  : Option (Bool) := (fold_Fold.f k 376).bind fun t101 => (if t101 = 255 then ((fold_Text.f (⟨#[195, 132, 206, 163]⟩ : ByteArray)).bind fun t102 => (if t102.toList = ([195, 164, 207, 131] : List UInt8) then ((fold_Letter.f 122).bind fun t103 => (if t103 = true then ((fold_Mark.f 8217).bind fun t104 => (some t104)) else (some false))) else (some false))) else (some false))
end Go.Proofs.Ythpemcchgebecaa.PSh05

namespace Go.Proofs.Ythpemcchgebecaa.PSh05
open Go.RowKit Go.Proofs.YthpemcchgebecaaW.PrintWords Go.Proofs.YthpemcchgebecaaW.PrintLast Go.Proofs.YthpemcchgebecaaW.PrintMore Go.Proofs.Ythpemcchgebecaa.K Go.Proofs.Ythpemcchgebecaa.PFold
attribute [local go_sem] max2_int min2_int max_two min_two max_three min_three max_four min_four   -- for this text's walks alone
set_option linter.unusedVariables false
set_option linter.unusedSimpArgs false

end Go.Proofs.Ythpemcchgebecaa.PSh05

namespace Go.Proofs.Ythpemcchgebecaa.K
open Go.RowKit Go.Proofs.YthpemcchgebecaaW.PrintWords Go.Proofs.YthpemcchgebecaaW.PrintLast Go.Proofs.YthpemcchgebecaaW.PrintMore Go.Proofs.Ythpemcchgebecaa
attribute [local go_sem] max2_int min2_int max_two min_two max_three min_three max_four min_four
set_option linter.unusedVariables false
set_option linter.unusedSimpArgs false
open Go.Proofs.Ythpemcchgebecaa.PFold Go.Proofs.Ythpemcchgebecaa.PSh05
end Go.Proofs.Ythpemcchgebecaa.K

namespace Go.Proofs.Ythpemcchgebecaa.K
open Go.RowKit Go.Proofs.YthpemcchgebecaaW.PrintWords Go.Proofs.YthpemcchgebecaaW.PrintLast Go.Proofs.YthpemcchgebecaaW.PrintMore Go.Proofs.Ythpemcchgebecaa
attribute [local go_sem] max2_int min2_int max_two min_two max_three min_three max_four min_four
set_option linter.unusedVariables false
set_option linter.unusedSimpArgs false
open Go.Proofs.Ythpemcchgebecaa.PFold Go.Proofs.Ythpemcchgebecaa.PWd
def wSt (l : List Int) (i : Nat) : WS := (l.take i).foldl wStep ([], [], false, false)
def wEnd (s : WS) : List ByteArray := s.1 ++ wOuts s.2.1 s.2.2.2
def wAll (l : List Int) : List ByteArray := wEnd (l.foldl wStep ([], [], false, false))
def lt (l : List Int) (i : Nat) : Bool := match l[i]? with | some c => isLetter c | none => false
def mk (l : List Int) (i : Nat) : Bool := match l[i]? with | some c => decide (c = 39 ∨ c = 8217) | none => false
def pl (l : List Int) (i : Nat) : Bool := match i with | 0 => false | i + 1 => lt l i
def wi (l : List Int) (i : Nat) : Bool := lt l i || (mk l i && (pl l i && lt l (i + 1)))
theorem step_end (s : WS) (c : Int) (h : isLetter c = false) (hn : ¬ ((c = 39 ∨ c = 8217) ∧ (0 < s.2.1.length ∨ s.2.2.2 = true) ∧ s.2.2.1 = false)) : wStep s c = (wEnd s, [], false, false) := by
  unfold wStep wEnd; rw [if_neg (by simp [h]), if_neg hn]
theorem outs_nil (lg : Bool) : wOuts [] lg = [] := by simp [wOuts]
/-- What stands at a stretch's begin. -/
def Rel (l : List Int) (i : Nat) (out : List ByteArray) : Prop :=
  pl l i = false ∧ ((wSt l i = (out, [], false, false)) ∨ (lt l i = false ∧ ∃ o w lg, wSt l i = (o, w, true, lg) ∧ out = o ++ wOuts w lg))
/-- What stands within a stretch that began at a place, n runes further. -/
def In (l : List Int) (i n : Nat) (out : List ByteArray) (x : List Int) : Prop :=
  x.length = n ∧ ((n = 0 ∧ wSt l i = (out, [], false, false) ∧ pl l i = false) ∨
    (0 < n ∧ pl l (i + n) = true ∧ wSt l (i + n) = (out, if n ≤ 32 then x else [], false, decide (32 < n))) ∨
    (0 < n ∧ lt l (i + n) = true ∧ ∃ y, x = y ++ [39] ∧ 0 < y.length ∧ wSt l (i + n) = (out, if n - 1 ≤ 32 then y else [], true, decide (32 < n - 1))))
end Go.Proofs.Ythpemcchgebecaa.K

namespace Go.Proofs.Ythpemcchgebecaa.K
open Go.RowKit Go.Proofs.YthpemcchgebecaaW.PrintWords Go.Proofs.YthpemcchgebecaaW.PrintLast Go.Proofs.YthpemcchgebecaaW.PrintMore Go.Proofs.Ythpemcchgebecaa Go.Proofs.Ythpemcchgebecaa.PRf04
set_option linter.unusedVariables false
set_option linter.unusedSimpArgs false
def szN (a : Int) : Int := if a < 128 then 1 else if 194 ≤ a ∧ a ≤ 223 then 2 else if 224 ≤ a ∧ a ≤ 239 then 3 else if 240 ≤ a ∧ a ≤ 244 then 4 else 0
/-- May a byte stand at a place? -/
def fitN (a at_ b : Int) : Bool := if at_ = 1 then Utf.fits a.toNat b.toNat else Utf.cont b.toNat
def gv (l : List Int) : Int :=
  let s := szN (rd l 0)
  let ok (i : Int) : Prop := i < (l.length : Int) ∧ i < s ∧ fitN (rd l 0) i (rd l i) = true
  have : ∀ i, Decidable (ok i) := fun i => inferInstanceAs (Decidable (_ ∧ _))
  if s = 0 then 0 else if ok 1 then (if ok 2 then (if ok 3 then 4 else 3) else 2) else 1
def toN (l : List Int) : List Nat := l.map Int.toNat
/-- What 'good' says of a list, with what 'dec' and 'pend' say. -/
def Spec (l : List Int) : Prop :=
    (szN (rd l 0) = 0 → Utf.dec (toN l) = (65533, 1) ∧ Utf.pend (toN l) = false) ∧
    (szN (rd l 0) ≠ 0 → gv l < szN (rd l 0) → Utf.dec (toN l) = (65533, 1) ∧ (gv l = l.length ↔ Utf.pend (toN l) = true)) ∧
    (szN (rd l 0) ≠ 0 → ¬ gv l < szN (rd l 0) → ((Utf.dec (toN l)).2 : Int) = szN (rd l 0) ∧ Utf.pend (toN l) = false ∧ Utf.dec (toN l) ≠ (65533, 1))
def byt (l : List Int) : Bool := l.all fun x => decide (0 ≤ x) && decide (x < 256)
theorem toN_str {l : List Int} (hb : ∀ x ∈ l, 0 ≤ x ∧ x < 256) : Utf.nats (strOfNums l) = toN l := by
  rw [nats_str]
  unfold toN
  apply List.map_congr_left
  intro x hx
  have := hb x hx; omega
end Go.Proofs.Ythpemcchgebecaa.K

namespace Go.Proofs.Ythpemcchgebecaa.K
open Go.RowKit Go.Proofs.YthpemcchgebecaaW.PrintWords Go.Proofs.YthpemcchgebecaaW.PrintLast Go.Proofs.YthpemcchgebecaaW.PrintMore Go.Proofs.Ythpemcchgebecaa Go.Proofs.Ythpemcchgebecaa.PRf04
set_option linter.unusedVariables false
set_option linter.unusedSimpArgs false
theorem wf_u8 {l : List Int} (h : ∀ x ∈ l, (Lit.int .u8 x).wf = true) : ∀ x ∈ l, 0 ≤ x ∧ x < 256 := by
  intro x hx
  have := h x hx
  simp only [Lit.wf, Bool.and_eq_true, decide_eq_true_eq] at this
  exact ⟨this.1, Int.lt_of_le_of_lt this.2 (by decide)⟩
/-- Runes of bytes, over the numbers. -/
theorem runes_toN {l : List Int} (hb : ∀ x ∈ l, 0 ≤ x ∧ x < 256) : Utf.runesZ (strOfNums l) = (Utf.all (toN l)).map fun n : Nat => (n : Int) := by
  unfold Utf.runesZ Utf.runesFrom
  rw [List.drop_zero, toN_str hb]
theorem feed_toN {l : List Int} (hb : ∀ x ∈ l, 0 ≤ x ∧ x < 256) : utf_Feed.r l = ((Utf.feed (toN l)).1.map fun n : Nat => (n : Int), l.drop (l.length - (Utf.feed (toN l)).2.length)) := by
  unfold utf_Feed.r Utf.fedFrom
  rw [List.drop_zero, toN_str hb]
theorem toN_append (a b : List Int) : toN (a ++ b) = toN a ++ toN b := by simp [toN]
theorem toN_length (a : List Int) : (toN a).length = a.length := by simp [toN]
theorem dec_ascii (x y : List Nat) (hx : x ≠ []) (hy : ∀ b ∈ y, b < 128) : Utf.dec (x ++ y) = Utf.dec x := by
  cases hp : Utf.pend x with
  | false => exact Utf.dec_append x y hx hp
  | true =>
    have hc : ∀ b ∈ y, Utf.cont b = false := by
      intro b hb; have := hy b hb
      cases h : Utf.cont b with
      | false => rfl
      | true => rw [Utf.cont_iff] at h; omega
    have hf : ∀ a, ∀ b ∈ y, Utf.fits a b = false := by
      intro a b hb; have := hy b hb
      cases h : Utf.fits a b with
      | false => rfl
      | true => rw [Utf.fits_iff] at h; omega
    match x with
    | [] => exact absurd rfl hx
    | [a] =>
      match y with
      | [] => simp
      | [b] => simp [Utf.dec, hc b (by simp)]
      | [b, c] => simp [Utf.dec, hc b (by simp), hf a b (by simp)]
      | b :: c :: d :: t => simp [Utf.dec, hc b (by simp), hf a b (by simp)]
    | [a, b] =>
      simp only [Utf.pend, Bool.and_eq_true, decide_eq_true_eq] at hp
      match y with
      | [] => simp
      | [c] => simp [Utf.dec, hc c (by simp)]
      | c :: d :: t => simp [Utf.dec, hc c (by simp)]
    | [a, b, c] =>
      simp only [Utf.pend, Bool.and_eq_true, decide_eq_true_eq] at hp
      match y with
      | [] => simp
      | d :: t => simp [Utf.dec, hc d (by simp)]
    | a :: b :: c :: d :: t => simp [Utf.pend] at hp
theorem all_ascii (y : List Nat) (hy : ∀ b ∈ y, b < 128) : Utf.all y = y := by
  induction y with
  | nil => exact Utf.all_nil
  | cons a t ih =>
    have ha := hy a (by simp)
    rw [Utf.all_ne _ (by simp), show Utf.dec (a :: t) = (a, 1) by simp [Utf.dec, ha]]
    simp [ih (fun b hb => hy b (by simp [hb]))]
end Go.Proofs.Ythpemcchgebecaa.K

namespace Go.Proofs.Ythpemcchgebecaa.K
open Go.RowKit Go.Proofs.YthpemcchgebecaaW.PrintWords Go.Proofs.YthpemcchgebecaaW.PrintLast Go.Proofs.YthpemcchgebecaaW.PrintMore Go.Proofs.Ythpemcchgebecaa
attribute [local go_sem] max2_int min2_int max_two min_two max_three min_three max_four min_four
set_option linter.unusedVariables false
set_option linter.unusedSimpArgs false
open Go.Proofs.Ythpemcchgebecaa.PFold Go.Proofs.Ythpemcchgebecaa.PWd Go.Proofs.Ythpemcchgebecaa.PTk Go.Proofs.Ythpemcchgebecaa.PRf04
theorem End_eq (w : List Int) (m lg : Bool) : words_End.f w m lg = some (wOuts w lg) := by
  unfold words_End.f words_State_word.f wOuts
  by_cases h : 0 < w.length
  · rw [if_pos (by omega)]
    cases lg <;> simp [h]
  · rw [if_neg (by omega)]
    simp [h]
theorem Feed_of (l : List Int) (m lg : Bool) (r : List Int) (h1 : l.length ≤ 1000000) (h2 : r.length ≤ 100000000) : words_Feed.f l m lg r = some (r.foldl wStep ([], l, m, lg)) := if_pos ⟨h1, h2⟩
theorem outs_len (r : List Int) : ∀ s : WS, (r.foldl wStep s).1.length ≤ s.1.length + r.length := by
  induction r with
  | nil => intro s; simp
  | cons c r ih =>
    intro s
    rw [List.foldl_cons]
    have h := ih (wStep s c)
    have h2 : (wStep s c).1.length ≤ s.1.length + 1 := by
      unfold wStep
      split
      · simp
      · split
        · simp
        · have := wOuts_le s.2.1 s.2.2.2; simp; omega
    simp; omega
theorem All_of (l : List Int) (h : l.length ≤ 1000000) : words_All.f l = some (wAll l) := by
  unfold words_All.f
  rw [Feed_of _ _ _ _ (by simp) (by omega)]
  simp only [Option.bind_some, End_eq]
  have h1 := outs_len l ([], [], false, false)
  have h2 := wOuts_le (l.foldl wStep ([], [], false, false)).2.1 (l.foldl wStep ([], [], false, false)).2.2.2
  simp only [List.length_nil, Nat.zero_add] at h1
  rw [if_pos (by omega)]
  rfl
def isL (c : Int) : Bool := isLetter c
def wCount (s : WS) : Nat := s.1.length + (if 0 < s.2.1.length then 1 else 0)
theorem count_step (s : WS) (c : Int) : wCount (wStep s c) ≤ wCount s + (if isLetter c = true then 1 else 0) := by
  unfold wStep wCount
  by_cases h1 : isLetter c = true
  · rw [if_pos h1, if_pos h1]
    show s.1.length + (if 0 < (wLet _ _ _ _).1.length then 1 else 0) ≤ _
    split <;> split <;> omega
  · rw [if_neg h1, if_neg h1]
    split
    · exact Nat.le_refl _
    · show (s.1 ++ wOuts s.2.1 s.2.2.2).length + (if 0 < ([] : List Int).length then 1 else 0) ≤ _
      unfold wOuts
      by_cases h : 0 < s.2.1.length
      · rw [if_pos h]; split <;> simp
      · rw [if_neg h, if_neg (fun k => h k.1)]; simp
theorem count_fold (r : List Int) : ∀ s : WS, wCount (r.foldl wStep s) ≤ wCount s + r.countP isLetter := by
  induction r with
  | nil => intro s; simp
  | cons c r ih =>
    intro s
    rw [List.foldl_cons, List.countP_cons]
    have h1 := ih (wStep s c)
    have h2 := count_step s c
    omega
theorem count_end (s : WS) : (wEnd s).length ≤ wCount s := by
  unfold wEnd wCount wOuts
  by_cases h : 0 < s.2.1.length
  · rw [if_pos h]; split <;> simp
  · rw [if_neg h, if_neg (fun k => h k.1)]; simp
theorem all_count (l : List Int) : (wAll l).length ≤ l.countP isLetter := by
  have h1 := count_end (l.foldl wStep ([], [], false, false))
  have h2 := count_fold l ([], [], false, false)
  have h3 : wCount ([], [], false, false) = 0 := rfl
  unfold wAll
  omega
theorem fold_out (r : List Int) : ∀ (o p : List ByteArray) (w : List Int) (m lg : Bool), r.foldl wStep (o ++ p, w, m, lg) = (o ++ (r.foldl wStep (p, w, m, lg)).1, (r.foldl wStep (p, w, m, lg)).2) := by
  induction r with
  | nil => intro o p w m lg; rfl
  | cons c r ih =>
    intro o p w m lg
    rw [List.foldl_cons, List.foldl_cons]
    have key : wStep (o ++ p, w, m, lg) c = (o ++ (wStep (p, w, m, lg) c).1, (wStep (p, w, m, lg) c).2) := by
      unfold wStep
      simp only
      split
      · rfl
      · split
        · rfl
        · simp
    rw [key]
    generalize wStep (p, w, m, lg) c = q
    obtain ⟨q1, q2, q3, q4⟩ := q
    exact ih o q1 q2 q3 q4
/-- Runes with one between that is no letter and no mark are the words of both. -/
theorem wAll_join (a b : List Int) (c : Int) (h1 : isLetter c = false) (h2 : ¬ (c = 39 ∨ c = 8217)) : wAll (a ++ c :: b) = wAll a ++ wAll b := by
  unfold wAll
  rw [List.foldl_append, List.foldl_cons, step_end _ _ h1 (fun h => h2 h.1)]
  have := fold_out b (wEnd (a.foldl wStep ([], [], false, false))) [] [] false false
  rw [List.append_nil] at this
  rw [this]
  unfold wEnd
  simp
def nLet (x : List Nat) : Nat := ((Utf.all x).map fun n : Nat => (n : Int)).countP isLetter
theorem utfAll_of (l : List Int) (hb : ∀ x ∈ l, 0 ≤ x ∧ x < 256) (h : l.length ≤ 100000000) : utf_All.f l = some ((Utf.all (toN l)).map fun n : Nat => (n : Int)) := by
  unfold utf_All.f
  rw [if_pos (by omega), runes_toN hb]
theorem all_len (l : List Int) : ((Utf.all (toN l)).map fun n : Nat => (n : Int)).length ≤ l.length := by
  rw [List.length_map, ← toN_length l]
  exact Utf.all_length _
theorem tokenAll_of (l : List Int) (hb : ∀ x ∈ l, 0 ≤ x ∧ x < 256) (h : l.length ≤ 1000000) : token_All.f l = some (wAll ((Utf.all (toN l)).map fun n : Nat => (n : Int))) := by
  unfold token_All.f
  rw [utfAll_of l hb (by omega)]
  simp only [Option.bind_some]
  rw [All_of _ (by have := all_len l; omega)]
  rfl
theorem same_run (a : List ByteArray) (hl : a.length < 100000000) : ∀ (d i k : Nat), d + i = a.length → manteletref06_Same.l0 (k + 1 + d) a a (i : Int) = some true := by
  intro d
  induction d with
  | zero => intro i k hi; rw [manteletref06_Same.l0, if_neg (by omega)]
  | succ d ih =>
    intro i k hi
    rw [show k + 1 + (d + 1) = (k + 1 + d) + 1 by omega, manteletref06_Same.l0, if_pos (by omega), if_pos (by omega), if_pos (by omega), if_pos rfl, show wrap64 ((i : Int) + 1) = ((i + 1 : Nat) : Int) by unfold wrap64; omega]
    exact ih (i + 1) k (by omega)
theorem same_eq (a : List ByteArray) (hl : a.length < 100000000) (k : Nat) (hk : a.length < k) : manteletref06_Same.f k a a = some true := by
  unfold manteletref06_Same.f
  rw [if_pos rfl]
  have := same_run a hl a.length 0 (k - 1 - a.length) (by omega)
  rw [show k - 1 - a.length + 1 + a.length = k by omega] at this
  exact this
theorem wAll_len (l : List Int) : (wAll l).length ≤ l.length := Nat.le_trans (all_count l) List.countP_le_length
end Go.Proofs.Ythpemcchgebecaa.K

namespace Go.Proofs.Ythpemcchgebecaa.K
open Go.RowKit Go.Proofs.YthpemcchgebecaaW.PrintWords Go.Proofs.YthpemcchgebecaaW.PrintLast Go.Proofs.YthpemcchgebecaaW.PrintMore Go.Proofs.Ythpemcchgebecaa
attribute [local go_sem] max2_int min2_int max_two min_two max_three min_three max_four min_four
set_option linter.unusedVariables false
set_option linter.unusedSimpArgs false
open Go.Proofs.Ythpemcchgebecaa.PFold Go.Proofs.Ythpemcchgebecaa.PWd Go.Proofs.Ythpemcchgebecaa.PTk Go.Proofs.Ythpemcchgebecaa.PRf04
def runesI (x : List Nat) : List Int := x.map fun n : Nat => (n : Int)
theorem tokenFeed_of (p : List Int) (w : List Int) (m lg : Bool) (b : List Int) (hb : ∀ x ∈ p ++ b, 0 ≤ x ∧ x < 256) (hl : p.length + b.length ≤ 1000000) (hw : w.length ≤ 1000000) :
    token_Feed.f p w m lg b = some (((runesI (Utf.feed (toN (p ++ b))).1).foldl wStep ([], w, m, lg)).1, (p ++ b).drop ((p ++ b).length - (Utf.feed (toN (p ++ b))).2.length), ((runesI (Utf.feed (toN (p ++ b))).1).foldl wStep ([], w, m, lg)).2) := by
  have hlen : (runesI (Utf.feed (toN (p ++ b))).1).length ≤ 100000000 := by
    have h1 := congrArg List.length (Utf.all_feed (toN (p ++ b)))
    have h2 := Utf.all_length (toN (p ++ b))
    rw [List.length_append] at h1
    rw [toN_length, List.length_append] at h2
    unfold runesI
    rw [List.length_map]
    omega
  unfold token_Feed.f utf_Feed.f
  rw [if_pos (by omega), feed_toN hb]
  simp only [Option.bind_some]
  unfold runesI at hlen ⊢
  rw [Feed_of _ _ _ _ hw hlen]
  rfl
theorem tokenEnd_of (p : List Int) (w : List Int) (m lg : Bool) (hb : ∀ x ∈ p, 0 ≤ x ∧ x < 256) (hl : p.length ≤ 1000000) (hw : w.length ≤ 1000000) :
    token_End.f p w m lg = some (wEnd ((runesI (Utf.all (toN p))).foldl wStep ([], w, m, lg))) := by
  have hlen := all_len p
  unfold token_End.f utf_End.f
  rw [utfAll_of p hb (by omega)]
  simp only [Option.bind_some]
  unfold runesI
  rw [Feed_of _ _ _ _ hw (by omega)]
  simp only [Option.bind_some, End_eq]
  generalize hs : ((Utf.all (toN p)).map fun n : Nat => (n : Int)).foldl wStep ([], w, m, lg) = s
  have h1 := outs_len ((Utf.all (toN p)).map fun n : Nat => (n : Int)) ([], w, m, lg)
  rw [hs] at h1
  have h2 := wOuts_le s.2.1 s.2.2.2
  simp only [List.length_nil] at h1
  rw [if_pos (by omega)]
  rfl
theorem shown07 (k : Nat) (hk : 2 < k) : manteletlaw07_shown.f k = some true := by
  have f1 : Utf.feed [68, 111, 110, 226] = ([68, 111, 110], [226]) := by
    rw [Utf.feed_step _ (by simp) (by rfl), Utf.feed_step _ (by decide) (by rfl), Utf.feed_step _ (by decide) (by rfl), Utf.feed_pend _ (by rfl)]
    rfl
  have f2 : Utf.feed [226, 128] = ([], [226, 128]) := Utf.feed_pend _ (by rfl)
  have f3 : Utf.feed [226, 128, 153, 116] = ([8217, 116], []) := by
    rw [Utf.feed_step _ (by simp) (by rfl), Utf.feed_step _ (by decide) (by rfl)]
    have : Utf.feed (List.drop (Utf.dec (List.drop (Utf.dec [226, 128, 153, 116]).2 [226, 128, 153, 116])).2 (List.drop (Utf.dec [226, 128, 153, 116]).2 [226, 128, 153, 116])) = ([], []) := Utf.feed_nil
    rw [this]
    rfl
  unfold manteletlaw07_shown.f
  simp only [Option.bind_some]
  have t1 : ([68, 111, 110, 226, 128, 153, 116] : List Int).take 4 = [68, 111, 110, 226] := rfl
  have t2 : (([68, 111, 110, 226, 128, 153, 116] : List Int).take 5).drop 4 = [128] := rfl
  have t3 : ([68, 111, 110, 226, 128, 153, 116] : List Int).drop 5 = [153, 116] := rfl
  have g1 : token_Feed.f [] [] false false [68, 111, 110, 226] = some ([], [226], [100, 111, 110], false, false) := by
    rw [tokenFeed_of _ _ _ _ _ (by decide) (by decide) (by decide), show toN ([] ++ [68, 111, 110, 226]) = [68, 111, 110, 226] from rfl, f1]
    kernel_rfl
  have g2 : token_Feed.f [226] [100, 111, 110] false false [128] = some ([], [226, 128], [100, 111, 110], false, false) := by
    rw [tokenFeed_of _ _ _ _ _ (by decide) (by decide) (by decide), show toN ([226] ++ [128]) = [226, 128] from rfl, f2]
    kernel_rfl
  have g3 : token_Feed.f [226, 128] [100, 111, 110] false false [153, 116] = some ([], [], [100, 111, 110, 39, 116], false, false) := by
    rw [tokenFeed_of _ _ _ _ _ (by decide) (by decide) (by decide), show toN ([226, 128] ++ [153, 116]) = [226, 128, 153, 116] from rfl, f3]
    kernel_rfl
  have g4 : token_End.f [] [100, 111, 110, 39, 116] false false = some [⟨#[100, 111, 110, 39, 116]⟩] := by
    rw [tokenEnd_of _ _ _ _ (by decide) (by decide) (by decide), show toN [] = [] from rfl, Utf.all_nil]
    kernel_rfl
  rw [t1, t2, t3, g1, if_pos (by decide)]
  simp only [Option.bind_some]
  rw [if_pos (by decide), if_pos (by decide), g2]
  simp only [Option.bind_some]
  rw [g3]
  simp only [Option.bind_some]
  rw [g4]
  simp only [Option.bind_some]
  rw [same_eq _ (by decide) k (by simpa using by omega)]
  rfl
end Go.Proofs.Ythpemcchgebecaa.K

namespace Go.Proofs.Ythpemcchgebecaa.Pure
open Go.RowKit Go.Proofs.YthpemcchgebecaaW.PrintWords Go.Proofs.YthpemcchgebecaaW.PrintLast Go.Proofs.Ythpemcchgebecaa.PTokenJoins Go.Proofs.Ythpemcchgebecaa.PFold Go.Proofs.Ythpemcchgebecaa.PWd Go.Proofs.Ythpemcchgebecaa.PTk Go.Proofs.Ythpemcchgebecaa.PRf04 Go.Proofs.Ythpemcchgebecaa.K Go.Proofs.Ythpemcchgebecaa
theorem nl_letter : isLetter 10 = false := by kernel_rfl
theorem pend_nl (x : List Nat) : Utf.pend (x ++ [10]) = false := by
  have hf : ∀ a, Utf.fits a 10 = false := by
    intro a
    cases h : Utf.fits a 10 with
    | false => rfl
    | true => rw [Utf.fits_iff] at h; omega
  match x with
  | [] => rfl
  | [a] => simp [Utf.pend, hf]
  | [a, b] => simp [Utf.pend, Utf.cont]
  | a :: b :: c :: t => cases t <;> rfl
theorem dec_nl (x z : List Nat) (hx : x ≠ []) : Utf.dec (x ++ 10 :: z) = Utf.dec x := by
  have e : x ++ 10 :: z = (x ++ [10]) ++ z := by simp
  rw [e, Utf.dec_append _ _ (by simp) (pend_nl x), dec_ascii x [10] hx (by simp)]
theorem all_nl (x z : List Nat) : Utf.all (x ++ 10 :: z) = Utf.all x ++ 10 :: Utf.all z := by
  match h : x.length with
  | n =>
    induction n using Nat.strongRecOn generalizing x with
    | ind n ih =>
      by_cases hx : x = []
      · subst hx
        rw [List.nil_append, Utf.all_ne _ (by simp), show Utf.dec (10 :: z) = (10, 1) by simp [Utf.dec], Utf.all_nil]
        simp
      · have h1 := Utf.dec_pos x
        have h2 := Utf.dec_le x hx
        have h0 : 0 < x.length := List.length_pos_iff.2 hx
        have hlen : (x.drop (Utf.dec x).2).length < n := by simp; omega
        rw [Utf.all_ne _ (by simp), Utf.all_ne x hx, dec_nl x z hx, Utf.drop_append_le x _ _ h2, ih _ hlen _ rfl]
        simp
theorem TokenJoins : manteletlaw07_TokenJoins.Pure := by
  intro l0 l1 _ _ hw0 _ _ hw1
  have hb0 := wf_u8 hw0
  have hb1 := wf_u8 hw1
  obtain ⟨K, hK⟩ : ∃ K : Nat, 5100 ≤ K := ⟨5100, Nat.le_refl _⟩
  refine ⟨K + 1, ?_⟩
  unfold manteletlaw07_TokenJoins.f
  rw [shown07 _ (by omega)]
  simp only [Option.bind_some]
  by_cases h0 : (l0.length : Int) > 2000
  · rw [if_pos h0, manteletlaw07_TokenJoins.j0, if_pos rfl]
  · rw [if_neg h0]
    by_cases h1 : (l1.length : Int) > 2000
    · rw [decide_eq_true h1, manteletlaw07_TokenJoins.j0, if_pos rfl]
    · rw [decide_eq_false h1, manteletlaw07_TokenJoins.j0, if_neg (by decide)]
      simp only [Option.bind_some, List.nil_append]
      have hb : ∀ x ∈ l0 ++ [10] ++ l1, 0 ≤ x ∧ x < 256 := by
        intro x hx
        simp only [List.mem_append, List.mem_singleton] at hx
        rcases hx with (hx | rfl) | hx
        · exact hb0 x hx
        · omega
        · exact hb1 x hx
      have e : Utf.all (toN (l0 ++ [10] ++ l1)) = Utf.all (toN l0) ++ 10 :: Utf.all (toN l1) := by
        rw [toN_append, toN_append, show toN [10] = [10] from rfl, List.append_assoc]
        exact all_nl _ _
      rw [if_pos (by simp; omega), if_pos (by omega), if_pos (by simp; omega), if_pos trivial, tokenAll_of _ hb (by simp; omega), tokenAll_of l0 hb0 (by omega), tokenAll_of l1 hb1 (by omega), e]
      simp only [Option.bind_some]
      rw [List.map_append, List.map_cons, show (((10 : Nat) : Int)) = 10 from rfl, wAll_join _ _ 10 nl_letter (by decide)]
      have k0 := wAll_len ((Utf.all (toN l0)).map fun n : Nat => (n : Int))
      have k1 := wAll_len ((Utf.all (toN l1)).map fun n : Nat => (n : Int))
      have k2 := all_len l0
      have k3 := all_len l1
      rw [if_pos (by rw [List.length_nil]; omega)]
      rw [if_pos (by omega)]
      rw [same_eq _ (by rw [List.length_append]; omega) _ (by rw [List.length_append]; omega)]
      rfl
end Go.Proofs.Ythpemcchgebecaa.Pure

namespace Go.Proofs.Ythpemcchgebecaa.tokenJoins
open Go.ChangeShapes Go.WideShapes Go.ChangeAt Go.RowKit
open Go.ChangeMaps (open_string shut_string)
set_option linter.unusedVariables false
theorem own : ownKnob Try.prog.godebug = none := by kernel_rfl
theorem laidOut : laidOutB Try.prog = true := by kernel_rfl
def IsRow (k : IntKind) (w : World) (a : Option Addr) (len cap : Nat) (zs : List Int) : Prop :=
  (a = none ∧ len = 0 ∧ cap = 0 ∧ zs = []) ∨
  ∃ x, a = some x ∧ len ≤ cap ∧ cap ≤ maxLen ∧ zs.length = cap ∧ (∀ i, i < zs.length → w.cell? (x.add i) = some (.int k (zs.getD i 0))) ∧ ∀ n ∈ zs, (Lit.int k n).wf = true
set_option maxRecDepth 100000 in
theorem lifted (os : Os) (started : os.Started) (H : Type) (enc : TypeId × Value → H) :
    ReturnsInHanded {} Try.checked os 10 .any (Rows.tokenJoinsSpec.pre6 enc Try.prog Try.f10 Rows.tokenJoinsRow.domain false) (Rows.tokenJoinsSpec.post enc Try.prog Try.f10 false true false false) := by
  refine returnsInHanded_of_change_sized (C := Try.checked) own started (by kernel_rfl) Try.func10
    (ChangeSpec.witness6 (enc := enc) (C := Try.checked) false ⟨#[], #[.slice none 0 0, .slice none 0 0], []⟩ 8 (by kernel_rfl) (by kernel_rfl) (by kernel_rfl) (by kernel_rfl)) ?_
  intro W base args ds gs before hval0 hW hcnd hsz0 _
  have hsz : (DataW.weightsEach Try.prog (Try.f10.params.toList ++ Rows.tokenJoinsSpec.plain.varTypes Try.prog) (ds ++ gs)).all (· ≤ reachBytes) = true := hsz0
  have hval : ∀ (j : Nat) t v, Try.f10.params[j]? = some t → args[j]? = some v → Value.okWide Try.prog W .any base t v := hval0
  have hW' := hW
  obtain ⟨p, q, hA0, hV, rfl, hfz, hnd⟩ := hW
  have hA : DataW.TrodAll enc Try.prog W 0 (fun _ => true) true Try.f10.params.toList args.toList ds p := hA0
  rw [Try.params10] at hA hval hsz
  obtain ⟨v0, vs0, d0, ds0, p0, q0, hargs, rfl, rfl, h0, r0⟩ := trodAll_cons hA
  obtain ⟨v1, vs1, d1, ds1, p1, q1, rfl, rfl, rfl, h1, r1⟩ := trodAll_cons r0
  obtain ⟨rfl, rfl, rfl⟩ := trodAll_nil r1
  obtain rfl : args = #[v0, v1] := by cases args; simp_all
  obtain ⟨rfl, rfl⟩ := trodVars_none hV
  obtain ⟨a0, len0, cap0, rfl⟩ := okWide_slice Try.underlying31 (hval 0 31 v0 rfl rfl)
  have k0 := h0
  have lt0 : ∀ x ∈ p0, x.block < W.heap.size := by obtain ⟨m, hm⟩ := k0; exact DataW.trod_lt m _ _ _ hm
  obtain ⟨z0, w0⟩ : ∃ zs, IsRow .u8 W a0 len0 cap0 zs := by
    obtain ⟨fuel, hf⟩ := h0
    rcases open_ints Try.underlying31 Try.underlying5 (by kernel_rfl) hf with ⟨hcs, _⟩ | ⟨x, l, c, zs, hcs, _, hl, hm, hz, _, hcell, hwz⟩
    · simp [Value.cells] at hcs
      obtain ⟨rfl, rfl, rfl⟩ := hcs
      exact ⟨[], .inl ⟨rfl, rfl, rfl, rfl⟩⟩
    · simp [Value.cells] at hcs
      obtain ⟨rfl, rfl, rfl⟩ := hcs
      exact ⟨zs, .inr ⟨_, rfl, hl, hm, by simpa using hz, hcell, hwz⟩⟩
  have y0 : len0 * 1 ≤ 140737488351232 := Go.Proofs.YthpemcchgebecaaW.PrintWords.sized_ints hsz (j := 0) (t := 31) rfl rfl Try.underlying31 Try.underlying5 (by kernel_rfl) (by kernel_rfl) h0
  obtain ⟨a1, len1, cap1, rfl⟩ := okWide_slice Try.underlying31 (hval 1 31 v1 rfl rfl)
  have k1 := h1
  have lt1 : ∀ x ∈ p1, x.block < W.heap.size := by obtain ⟨m, hm⟩ := k1; exact DataW.trod_lt m _ _ _ hm
  obtain ⟨z1, w1⟩ : ∃ zs, IsRow .u8 W a1 len1 cap1 zs := by
    obtain ⟨fuel, hf⟩ := h1
    rcases open_ints Try.underlying31 Try.underlying5 (by kernel_rfl) hf with ⟨hcs, _⟩ | ⟨x, l, c, zs, hcs, _, hl, hm, hz, _, hcell, hwz⟩
    · simp [Value.cells] at hcs
      obtain ⟨rfl, rfl, rfl⟩ := hcs
      exact ⟨[], .inl ⟨rfl, rfl, rfl, rfl⟩⟩
    · simp [Value.cells] at hcs
      obtain ⟨rfl, rfl, rfl⟩ := hcs
      exact ⟨zs, .inr ⟨_, rfl, hl, hm, by simpa using hz, hcell, hwz⟩⟩
  have y1 : len1 * 1 ≤ 140737488351232 := Go.Proofs.YthpemcchgebecaaW.PrintWords.sized_ints hsz (j := 1) (t := 31) rfl rfl Try.underlying31 Try.underlying5 (by kernel_rfl) (by kernel_rfl) h1
  clear hA0 hval0 hsz0 hsz
  refine (PTokenJoins.manteletlaw07_TokenJoins.walk Pure.TokenJoins a0 len0 cap0 z0 a1 len1 cap1 z1 W w0 y0 w1 y1).mono fun e W' ⟨he, bel⟩ => ?_
  subst he
  exact ⟨_, rfl, _, _, _, [], _, [], hW', trodAll_mk1 (shut_bool Try.underlying4 _), (trodAll_cons_mk (Below.trod laidOut (by kernel_rfl) (of_decide_eq_true (by kernel_rfl)) k0 bel lt0) (trodAll_cons_mk (Below.trod laidOut (by kernel_rfl) (of_decide_eq_true (by kernel_rfl)) k1 bel lt1) trodAll_mk0)), rfl, bel.frame _, fun h => by cases h⟩
theorem over : Rows.tokenJoinsRow.holds Try.pinned (OpenSpec.ofChange Rows.tokenJoinsSpec) :=
  OpenClaim.holds_of_wide 10 Try.f10 rfl rfl rfl rfl rfl rfl rfl ⟨rfl, rfl, rfl, rfl, rfl⟩ rfl rfl rfl rfl rfl (by kernel_rfl) Try.func10 (by kernel_rfl)
    (of_decide_eq_true (by kernel_rfl)) (by unfold Func.isWrapper; first | (rw [if_pos (by decide +kernel)]; kernel_rfl) | (rw [if_neg (by decide +kernel)]; exact ⟨rfl, rfl⟩))
    (fun os started H enc _ => lifted os started H enc)
theorem proved : Rows.TokenJoinsSaid := over
#print axioms proved
end Go.Proofs.Ythpemcchgebecaa.tokenJoins
namespace Go.Proofs.Ythpemcchgebecaa
/-- The row, under a short name, for the claim. -/
theorem tokenJoins_holds : Rows.TokenJoinsSaid := tokenJoins.proved
end Go.Proofs.Ythpemcchgebecaa

