/- TokenAll: whatever bytes (5000 at most): the words told are the document's. (The texts that the proof is made of, one behind the other: part 13 of 13.) -/
import Derived.Test.YthpemcchgebecaaProg
import Derived.Below
import Derived.Deep.Draws
import Derived.Deep.AppendLies
import Derived.Maps.AppendAt
import Derived.OwnWalk
import Derived.Laws.BytesArg
import Derived.Laws.MakeOwn
import Derived.Laws.OwnMore
import Derived.Deep.OwnRows
import Derived.Tactics
import Derived.Lib.ConvBytes
import Derived.Laws.Slices
import Derived.WalkKit
import Derived.KernelRfl
import Derived.RowKit3
import Derived.Deep.LoopGhost
import Derived.Deep.QuietTactic
import Derived.BigQuiet
import Derived.WideLaws
import Derived.Deep.DeepCutAuto
import Derived.Deep.CutBlock
import Derived.Deep.RegionHeld3
import Derived.Laws.Rows
import Derived.Lib.AppendStr
import Derived.ArgAppend
import Derived.Laws.IdiomCopy
import Derived.OrdersHeld
import Derived.Laws.BitsLemmas
import Derived.RowKit
import Derived.Lib.OthersKept
import Derived.WalkSmall
import Derived.Deep.RegionLaw
import Derived.BigRegion
import GoSem.Claim
import Derived.Test.YthpemcchgebecaaRows
import Derived.ProofKit
import Derived.OpenShut
import Derived.ShutString
import Derived.ChangeOld
import Derived.SizedLaws
import Derived.Test.YthpemcchgebecaaZTokenAlla
import Derived.Test.YthpemcchgebecaaZTokenAllb
import Derived.Test.YthpemcchgebecaaZTokenAllc
import Derived.Test.YthpemcchgebecaaZTokenAlld
import Derived.Test.YthpemcchgebecaaZTokenAlle
import Derived.Test.YthpemcchgebecaaZTokenAllf
import Derived.Test.YthpemcchgebecaaZTokenAllg
import Derived.Test.YthpemcchgebecaaZTokenAllh
import Derived.Test.YthpemcchgebecaaZTokenAlli
import Derived.Test.YthpemcchgebecaaZTokenAllj
import Derived.Test.YthpemcchgebecaaZTokenAllk
import Derived.Test.YthpemcchgebecaaZTokenAlll
namespace Go.Proofs.Ythpemcchgebecaa.PTk
open Go.RowKit Go.Proofs.YthpemcchgebecaaW.PrintWords Go.Proofs.YthpemcchgebecaaW.PrintLast Go.Proofs.YthpemcchgebecaaW.PrintMore Go.Proofs.Ythpemcchgebecaa.K Go.Proofs.Ythpemcchgebecaa.PFold Go.Proofs.Ythpemcchgebecaa.PRf04 Go.Proofs.Ythpemcchgebecaa.PWd
attribute [local go_sem] max2_int min2_int max_two min_two max_three min_three max_four min_four   -- for this text's walks alone
set_option linter.unusedVariables false
set_option linter.unusedSimpArgs false

end Go.Proofs.Ythpemcchgebecaa.PTk

namespace Go.Proofs.Ythpemcchgebecaa.PTokenAll
open Go.RowKit Go.Proofs.YthpemcchgebecaaW.PrintWords Go.Proofs.YthpemcchgebecaaW.PrintLast Go.Proofs.YthpemcchgebecaaW.PrintMore Go.Proofs.Ythpemcchgebecaa.K Go.Proofs.Ythpemcchgebecaa.PFold Go.Proofs.Ythpemcchgebecaa.PRf04 Go.Proofs.Ythpemcchgebecaa.PTk Go.Proofs.Ythpemcchgebecaa.PWd
attribute [local go_sem] max2_int min2_int max_two min_two max_three min_three max_four min_four   -- for this text's walks alone
set_option linter.unusedVariables false
set_option linter.unusedSimpArgs false



def errW : Option Int → Value
  | none => .nilIface
  | some c => .iface 0 (.int .i64 c)
theorem errW_none : errW none = .nilIface := rfl
theorem errW_some (c : Int) : errW (some c) = .iface 0 (.int .i64 c) := rfl

end Go.Proofs.Ythpemcchgebecaa.PTokenAll

namespace Go.Proofs.Ythpemcchgebecaa.PTokenAll
open Go.RowKit Go.Proofs.YthpemcchgebecaaW.PrintWords Go.Proofs.YthpemcchgebecaaW.PrintLast Go.Proofs.YthpemcchgebecaaW.PrintMore Go.Proofs.Ythpemcchgebecaa.K Go.Proofs.Ythpemcchgebecaa.PFold Go.Proofs.Ythpemcchgebecaa.PRf04 Go.Proofs.Ythpemcchgebecaa.PTk Go.Proofs.Ythpemcchgebecaa.PWd
attribute [local go_sem] max2_int min2_int max_two min_two max_three min_three max_four min_four   -- for this text's walks alone
set_option linter.unusedVariables false
set_option linter.unusedSimpArgs false

def manteletlaw07_TokenAll.f (k : Nat) (l0 : List Int) : Option (Bool) := (manteletlaw07_shown.f k).bind fun t101 => (if (l0.length : Int) > 5000 then (some t101) else (if t101 = true then ((token_All.f l0).bind fun t102 => ((manteletref07_All.f k l0).bind fun t105 => ((manteletref06_Same.f k t102 t105).bind fun t108 => (some t108)))) else (some false)))
set_option maxHeartbeats 8000000 in
set_option maxRecDepth 100000 in
theorem manteletlaw07_TokenAll.calls (k : Nat) (A0 : Option Addr) (c0 : Nat) (l0 : List Int) (r : Bool) (w : World) (hr0 : Kd.C (Kd.int .u8) w A0 l0.length l0) (hc0 : l0.length ≤ c0) (h : manteletlaw07_TokenAll.f k l0 = some r) :
    Calls Try.prog 8 #[.slice A0 l0.length c0] w fun e w' => e = .returned (.bool r) ∧ Below w.heap.size w w' := by
  have HR0 := Aside0.mk hr0
  have HC0 := Aside0.mk hc0
  clear hr0 hc0
  have HB := Aside0.mk (Below.refl w.heap.size w)
  have H : ((manteletlaw07_shown.f k).bind fun t101 => (if (l0.length : Int) > 5000 then (some t101) else (if t101 = true then ((token_All.f l0).bind fun t102 => ((manteletref07_All.f k l0).bind fun t105 => ((manteletref06_Same.f k t102 t105).bind fun t108 => (some t108)))) else (some false)))) = some r := h
  clear h
  replace H := Option.bind_eq_some_iff.mp H
  obtain ⟨t101, A20, H⟩ := H
  replace H : (if (l0.length : Int) > 5000 then (some t101) else (if t101 = true then ((token_All.f l0).bind fun t102 => ((manteletref07_All.f k l0).bind fun t105 => ((manteletref06_Same.f k t102 t105).bind fun t108 => (some t108)))) else (some false))) = some r := H
  have A2 := Aside0.mk A20
  clear A20
  by_cases c3 : (l0.length : Int) > 5000
  · rw [if_pos c3] at H
    have c3b0 : decide (5000 < (l0.length : Int)) = true := decide_eq_true c3
    have c3b1 : decide (5000 < l0.length) = true := decide_eq_true (by omega)
    clear c3
    obtain rfl := Option.some.inj H
    go_enter Try.func8, Try.ntmps8
    go_wp2_with (first | ((with_reducible refine gate_callee (f := 20) rfl ?_); refine goesL_ (some 4) rfl rfl Try.func20 (by kernel_rfl) rfl #[] rfl (by (try simp only [List.map_toArray, List.map_cons, List.map_nil]); first | done | rfl | (simp only [List.length_drop, List.length_take]; rfl)) ?_; (with_reducible refine (manteletlaw07_shown.calls k  t101 _ A2.out).mono ?_); rintro e w4 ⟨rfl, hb⟩; refine ⟨_, rfl, ?_⟩; have n0_ := Aside0.mk (below_step (by repeat (first | (with_reducible first | exact HB.out | apply below_alloc | apply pw_below_drewN | apply below_drew1) | exact HB.out)) hb); clear HB; have HB := n0_; clear n0_; (try clear hb); (try clear hb2); (try clear hk); (try clear hi)))
    go_ret
    exact ⟨by first | rfl | (simp [errW_none, errW_some] <;> rfl) | (simp [*, errW_none, errW_some] <;> rfl), by repeat (first | (with_reducible first | exact HB.out | apply below_alloc | apply pw_below_drewN | apply below_drew1) | exact HB.out)⟩
  · rw [if_neg c3] at H
    have c3b0 : decide (5000 < (l0.length : Int)) = false := decide_eq_false c3
    have c3b1 : decide (5000 < l0.length) = false := decide_eq_false (by omega)
    clear c3
    by_cases c5 : t101 = true
    · subst c5
      have H1 : ((token_All.f l0).bind fun t102 => ((manteletref07_All.f k l0).bind fun t105 => ((manteletref06_Same.f k t102 t105).bind fun t108 => (some t108)))) = some r := by rw [if_pos rfl] at H; exact H
      clear H
      have H := H1
      clear H1
      replace H := Option.bind_eq_some_iff.mp H
      obtain ⟨t102, A60, H⟩ := H
      replace H : ((manteletref07_All.f k l0).bind fun t105 => ((manteletref06_Same.f k t102 t105).bind fun t108 => (some t108))) = some r := H
      have A6 := Aside0.mk A60
      clear A60
      replace H := Option.bind_eq_some_iff.mp H
      obtain ⟨t105, A70, H⟩ := H
      replace H : ((manteletref06_Same.f k t102 t105).bind fun t108 => (some t108)) = some r := H
      have A7 := Aside0.mk A70
      clear A70
      replace H := Option.bind_eq_some_iff.mp H
      obtain ⟨t108, A80, H⟩ := H
      replace H : (some t108) = some r := H
      have A8 := Aside0.mk A80
      clear A80
      obtain rfl := Option.some.inj H
      go_enter Try.func8, Try.ntmps8
      go_wp2_with (first | ((with_reducible refine gate_callee (f := 20) rfl ?_); refine goesL_ (some 4) rfl rfl Try.func20 (by kernel_rfl) rfl #[] rfl (by (try simp only [List.map_toArray, List.map_cons, List.map_nil]); first | done | rfl | (simp only [List.length_drop, List.length_take]; rfl)) ?_; (with_reducible refine (manteletlaw07_shown.calls k  true _ A2.out).mono ?_); rintro e w9 ⟨rfl, hb⟩; refine ⟨_, rfl, ?_⟩; have n0_ := Aside0.mk (below_step (by repeat (first | (with_reducible first | exact HB.out | apply below_alloc | apply pw_below_drewN | apply below_drew1) | exact HB.out)) hb); clear HB; have HB := n0_; clear n0_; (try clear hb); (try clear hb2); (try clear hk); (try clear hi)) | (go_at_call 22; (with_reducible refine (token_All.calls _ _ l0 t102 _ ?side1 ?side2 A6.out).mono ?_); (case side1 => repeat (first | exact (Kd.C_below HR0.out HB.out) | (with_reducible refine Kd.C_alloc ?_ _) | (with_reducible refine Kd.C_drewN ?_ _) | (with_reducible refine Kd.C_drew ?_))); (case side2 => exact HC0.out); rintro e w10 ⟨v103, rfl, ho0, hb⟩; have n0_ := Aside0.mk (Kd.R_lower ho0 (below_size (by repeat (first | (with_reducible first | exact HB.out | apply below_alloc | apply pw_below_drewN | apply below_drew1) | exact HB.out)))); have n1_ := Aside0.mk (below_step (by repeat (first | (with_reducible first | exact HB.out | apply below_alloc | apply pw_below_drewN | apply below_drew1) | exact HB.out)) hb); clear HB; have HO104 := n0_; have HB := n1_; clear n0_ n1_; (try clear hb); (try clear hb2); (try clear hk); (try clear hi); (try clear ho0)) | (go_at_call 23; (with_reducible refine (manteletref07_All.calls k _ _ l0 t105 _ ?side1 ?side2 A7.out).mono ?_); (case side1 => repeat (first | exact (Kd.C_below HR0.out HB.out) | (with_reducible refine Kd.C_alloc ?_ _) | (with_reducible refine Kd.C_drewN ?_ _) | (with_reducible refine Kd.C_drew ?_))); (case side2 => exact HC0.out); rintro e w11 ⟨v106, rfl, ho0, hb⟩; have n0_ := Aside0.mk (Kd.R_elder' (by (with_reducible repeat (first | apply Kd.R_alloc | apply Kd.R_drewN | apply Kd.R_drew)); exact HO104.out) (Kd.R_base ho0) hb); have n1_ := Aside0.mk (Kd.R_lower (Kd.R_new' ho0 (Kd.R_lt (by (with_reducible repeat (first | apply Kd.R_alloc | apply Kd.R_drewN | apply Kd.R_drew)); exact HO104.out))) (below_size (by repeat (first | (with_reducible first | exact HB.out | apply below_alloc | apply pw_below_drewN | apply below_drew1) | exact HB.out)))); have n2_ := Aside0.mk (below_step (by repeat (first | (with_reducible first | exact HB.out | apply below_alloc | apply pw_below_drewN | apply below_drew1) | exact HB.out)) hb); clear HO104; clear HB; have HO104 := n0_; have HO107 := n1_; have HB := n2_; clear n0_ n1_ n2_; (try clear hb); (try clear hb2); (try clear hk); (try clear hi); (try clear ho0); obtain ⟨Ao12, co12, eo12⟩ := Kd.R_slice HO104.out; subst eo12; obtain ⟨Ao13, co13, eo13⟩ := Kd.R_slice HO107.out; subst eo13) | (go_at_call 21; (with_reducible refine (manteletref06_Same.calls k _ _ t102 _ _ t105 t108 _ ?side1 ?side2 ?side3 ?side4 A8.out).mono ?_); (case side1 => repeat (first | exact (Kd.R_reads' HO104.out).2.2 | (with_reducible refine Kd.C_alloc ?_ _) | (with_reducible refine Kd.C_drewN ?_ _) | (with_reducible refine Kd.C_drew ?_))); (case side2 => exact (Kd.R_reads' HO104.out).2.1); (case side3 => repeat (first | exact (Kd.R_reads' HO107.out).2.2 | (with_reducible refine Kd.C_alloc ?_ _) | (with_reducible refine Kd.C_drewN ?_ _) | (with_reducible refine Kd.C_drew ?_))); (case side4 => exact (Kd.R_reads' HO107.out).2.1); rintro e w' ⟨rfl, ⟨nd, rfl⟩⟩))
      go_ret
      exact ⟨by first | rfl | (simp [errW_none, errW_some] <;> rfl) | (simp [*, errW_none, errW_some] <;> rfl), by repeat (first | (with_reducible first | exact HB.out | apply below_alloc | apply pw_below_drewN | apply below_drew1) | exact HB.out)⟩
    · replace c5 := Bool.eq_false_iff.mpr c5
      subst c5
      have H1 : (some false) = some r := by rw [if_neg (show ¬ (false = true) by decide)] at H; exact H
      clear H
      have H := H1
      clear H1
      obtain rfl := Option.some.inj H
      go_enter Try.func8, Try.ntmps8
      go_wp2_with (first | ((with_reducible refine gate_callee (f := 20) rfl ?_); refine goesL_ (some 4) rfl rfl Try.func20 (by kernel_rfl) rfl #[] rfl (by (try simp only [List.map_toArray, List.map_cons, List.map_nil]); first | done | rfl | (simp only [List.length_drop, List.length_take]; rfl)) ?_; (with_reducible refine (manteletlaw07_shown.calls k  false _ A2.out).mono ?_); rintro e w14 ⟨rfl, hb⟩; refine ⟨_, rfl, ?_⟩; have n0_ := Aside0.mk (below_step (by repeat (first | (with_reducible first | exact HB.out | apply below_alloc | apply pw_below_drewN | apply below_drew1) | exact HB.out)) hb); clear HB; have HB := n0_; clear n0_; (try clear hb); (try clear hb2); (try clear hk); (try clear hi)))
      go_ret
      exact ⟨by first | rfl | (simp [errW_none, errW_some] <;> rfl) | (simp [*, errW_none, errW_some] <;> rfl), by repeat (first | (with_reducible first | exact HB.out | apply below_alloc | apply pw_below_drewN | apply below_drew1) | exact HB.out)⟩

/-- THE ONE PURE STATEMENT of manteletlaw07_TokenAll: yours. -/
def manteletlaw07_TokenAll.Pure : Prop := ∀ (l0 : List Int), l0.length ≤ maxLen → l0.length * 1 ≤ 140737488351232 → (∀ x ∈ l0, (Lit.int .u8 x).wf = true) → ∃ k, manteletlaw07_TokenAll.f k l0 = some true
theorem manteletlaw07_TokenAll.walk (P : manteletlaw07_TokenAll.Pure) (a0 : Option Addr) (len0 cap0 : Nat) (z0 : List Int) (w : World) (w0 : (a0 = none ∧ len0 = 0 ∧ cap0 = 0 ∧ z0 = []) ∨ ∃ x, a0 = some x ∧ len0 ≤ cap0 ∧ cap0 ≤ maxLen ∧ z0.length = cap0 ∧ (∀ i, i < z0.length → w.cell? (x.add i) = some (.int .u8 (z0.getD i 0))) ∧ ∀ n ∈ z0, (Lit.int .u8 n).wf = true) (y0 : len0 * 1 ≤ 140737488351232) :
    Calls Try.prog 8 #[.slice a0 len0 cap0] w fun e w' => e = .returned (.bool true) ∧ Below w.heap.size w w' := by
  obtain ⟨l0, rfl, hr0, hm0, hw0, hc0⟩ := ReadsInt.ofRowC w0
  obtain ⟨k, h⟩ := P l0 hm0 y0 hw0
  refine (manteletlaw07_TokenAll.calls k _ _ l0 true w (Kd.C_of_reads (d := (0 : Int)) (h1 := fun _ => rfl) hr0) hc0 h).mono ?_
  rintro e w' ⟨rfl, hd⟩
  exact ⟨rfl, hd⟩

end Go.Proofs.Ythpemcchgebecaa.PTokenAll

namespace Go.Proofs.Ythpemcchgebecaa.PSh05
open Go.RowKit Go.Proofs.YthpemcchgebecaaW.PrintWords Go.Proofs.YthpemcchgebecaaW.PrintLast Go.Proofs.YthpemcchgebecaaW.PrintMore Go.Proofs.Ythpemcchgebecaa.K Go.Proofs.Ythpemcchgebecaa.PFold
attribute [local go_sem] max2_int min2_int max_two min_two max_three min_three max_four min_four   -- for this text's walks alone
set_option linter.unusedVariables false
set_option linter.unusedSimpArgs false



def errW : Option Int → Value
  | none => .nilIface
  | some c => .iface 0 (.int .i64 c)
theorem errW_none : errW none = .nilIface := rfl
theorem errW_some (c : Int) : errW (some c) = .iface 0 (.int .i64 c) := rfl

end Go.Proofs.Ythpemcchgebecaa.PSh05

namespace Go.Proofs.Ythpemcchgebecaa.PSh05
open Go.RowKit Go.Proofs.YthpemcchgebecaaW.PrintWords Go.Proofs.YthpemcchgebecaaW.PrintLast Go.Proofs.YthpemcchgebecaaW.PrintMore Go.Proofs.Ythpemcchgebecaa.K Go.Proofs.Ythpemcchgebecaa.PFold
attribute [local go_sem] max2_int min2_int max_two min_two max_three min_three max_four min_four   -- for this text's walks alone
set_option linter.unusedVariables false
set_option linter.unusedSimpArgs false

def manteletlaw05_shown.f (k : Nat)  : Option (Bool) := (fold_Fold.f k 376).bind fun t101 => (if t101 = 255 then ((fold_Text.f (⟨#[195, 132, 206, 163]⟩ : ByteArray)).bind fun t102 => (if t102.toList = ([195, 164, 207, 131] : List UInt8) then ((fold_Letter.f 122).bind fun t103 => (if t103 = true then ((fold_Mark.f 8217).bind fun t104 => (some t104)) else (some false))) else (some false))) else (some false))
end Go.Proofs.Ythpemcchgebecaa.PSh05

namespace Go.Proofs.Ythpemcchgebecaa.PSh05
open Go.RowKit Go.Proofs.YthpemcchgebecaaW.PrintWords Go.Proofs.YthpemcchgebecaaW.PrintLast Go.Proofs.YthpemcchgebecaaW.PrintMore Go.Proofs.Ythpemcchgebecaa.K Go.Proofs.Ythpemcchgebecaa.PFold
attribute [local go_sem] max2_int min2_int max_two min_two max_three min_three max_four min_four   -- for this text's walks alone
set_option linter.unusedVariables false
set_option linter.unusedSimpArgs false

end Go.Proofs.Ythpemcchgebecaa.PSh05

namespace Go.Proofs.Ythpemcchgebecaa.K
open Go.RowKit Go.Proofs.YthpemcchgebecaaW.PrintWords Go.Proofs.YthpemcchgebecaaW.PrintLast Go.Proofs.YthpemcchgebecaaW.PrintMore Go.Proofs.Ythpemcchgebecaa
attribute [local go_sem] max2_int min2_int max_two min_two max_three min_three max_four min_four
set_option linter.unusedVariables false
set_option linter.unusedSimpArgs false
open Go.Proofs.Ythpemcchgebecaa.PFold Go.Proofs.Ythpemcchgebecaa.PSh05
theorem ref_Fold_at (c : Int) : ∀ k, manteletref05_Fold.f (k + 6) c = some (foldZ c)
  | 0 => ref_Fold_eq c
  | k + 1 => manteletref05_Fold.mono c (k + 6) _ (ref_Fold_at c k)
theorem mark_same (c : Int) : manteletref05_Mark.f c = fold_Mark.f c := rfl
theorem mark_of (c : Int) : fold_Mark.f c = some (decide (c = 39 ∨ c = 8217)) := by
  unfold fold_Mark.f
  by_cases h : c = 39
  · rw [if_pos h]; simp [h]
  · rw [if_neg h]; simp [h]; by_cases h2 : c = 8217 <;> simp [h2]
end Go.Proofs.Ythpemcchgebecaa.K

namespace Go.Proofs.Ythpemcchgebecaa.K
open Go.RowKit Go.Proofs.YthpemcchgebecaaW.PrintWords Go.Proofs.YthpemcchgebecaaW.PrintLast Go.Proofs.YthpemcchgebecaaW.PrintMore Go.Proofs.Ythpemcchgebecaa
attribute [local go_sem] max2_int min2_int max_two min_two max_three min_three max_four min_four
set_option linter.unusedVariables false
set_option linter.unusedSimpArgs false
open Go.Proofs.Ythpemcchgebecaa.PFold Go.Proofs.Ythpemcchgebecaa.PWd
def wSt (l : List Int) (i : Nat) : WS := (l.take i).foldl wStep ([], [], false, false)
def wEnd (s : WS) : List ByteArray := s.1 ++ wOuts s.2.1 s.2.2.2
def wAll (l : List Int) : List ByteArray := wEnd (l.foldl wStep ([], [], false, false))
theorem wSt_succ (l : List Int) (i : Nat) (h : i < l.length) : wSt l (i + 1) = wStep (wSt l i) l[i] := foldl_take l _ i h
theorem wSt_end (l : List Int) (i : Nat) (h : l.length ≤ i) : wEnd (wSt l i) = wAll l := by unfold wSt wAll; rw [List.take_of_length_le h]
def lt (l : List Int) (i : Nat) : Bool := match l[i]? with | some c => isLetter c | none => false
def mk (l : List Int) (i : Nat) : Bool := match l[i]? with | some c => decide (c = 39 ∨ c = 8217) | none => false
def pl (l : List Int) (i : Nat) : Bool := match i with | 0 => false | i + 1 => lt l i
def wi (l : List Int) (i : Nat) : Bool := lt l i || (mk l i && (pl l i && lt l (i + 1)))
theorem lt_in {l : List Int} {i : Nat} (h : i < l.length) : lt l i = isLetter l[i] := by simp [lt, h]
theorem mk_in {l : List Int} {i : Nat} (h : i < l.length) : mk l i = decide (l[i] = 39 ∨ l[i] = 8217) := by simp [mk, h]
theorem lt_out {l : List Int} {i : Nat} (h : ¬ i < l.length) : lt l i = false := by simp [lt, List.getElem?_eq_none (by omega : l.length ≤ i)]
theorem letter_eq (l : List Int) (i : Nat) (hl : l.length < 1000000) : manteletref06_letter.f l (i : Int) = some (lt l i) := by
  unfold manteletref06_letter.f
  rw [if_pos (by omega)]
  by_cases h : i < l.length
  · have e : rd l (i : Int) = l[i] := by rw [rd_nat, List.getD_eq_getElem?_getD, List.getElem?_eq_getElem h]; rfl
    rw [if_pos (by omega), if_pos (by omega), e, ref_Letter_eq, lt_in h]; rfl
  · rw [if_neg (by omega), lt_out h]
theorem letter_prev (l : List Int) (i : Nat) (hl : l.length < 1000000) (hi : i < 1000000) : manteletref06_letter.f l (wrap64 ((i : Int) - 1)) = some (pl l i) := by
  match i with
  | 0 => unfold manteletref06_letter.f; rw [if_neg (by unfold wrap64; omega)]; rfl
  | i + 1 =>
    rw [show wrap64 (((i + 1 : Nat) : Int) - 1) = (i : Int) by unfold wrap64; omega]
    exact letter_eq l i hl
theorem within_eq (l : List Int) (i : Nat) (hl : l.length < 1000000) (hi : i < l.length) : manteletref06_within.f l (i : Int) = some (wi l i) := by
  unfold manteletref06_within.f wi
  rw [letter_eq l i hl]
  simp only [Option.bind_some]
  cases h : lt l i with
  | true => simp
  | false =>
    have e : rd l (i : Int) = l[i] := by rw [rd_nat, List.getD_eq_getElem?_getD, List.getElem?_eq_getElem hi]; rfl
    rw [if_neg (by decide), if_pos (by omega), if_pos (by omega), if_pos (by omega), e, mark_same, mark_of, letter_prev l i hl (by omega), show wrap64 ((i : Int) + 1) = ((i + 1 : Nat) : Int) by unfold wrap64; omega, letter_eq l (i + 1) hl, mk_in hi]
    simp only [Option.bind_some, Bool.false_or]
    cases decide (l[i] = 39 ∨ l[i] = 8217) <;> cases pl l i <;> rfl
theorem step_letter (s : WS) (c : Int) (h : isLetter c = true) : wStep s c = (s.1, wLet s.2.1 s.2.2.1 s.2.2.2 c) := if_pos h
theorem step_mark (s : WS) (c : Int) (h : isLetter c = false) (hm : c = 39 ∨ c = 8217) (ho : 0 < s.2.1.length ∨ s.2.2.2 = true) (hf : s.2.2.1 = false) : wStep s c = (s.1, s.2.1, true, s.2.2.2) := by
  unfold wStep; rw [if_neg (by simp [h]), if_pos ⟨hm, ho, hf⟩]
theorem step_end (s : WS) (c : Int) (h : isLetter c = false) (hn : ¬ ((c = 39 ∨ c = 8217) ∧ (0 < s.2.1.length ∨ s.2.2.2 = true) ∧ s.2.2.1 = false)) : wStep s c = (wEnd s, [], false, false) := by
  unfold wStep wEnd; rw [if_neg (by simp [h]), if_neg hn]
theorem outs_nil (lg : Bool) : wOuts [] lg = [] := by simp [wOuts]
/-- What stands at a stretch's begin. -/
def Rel (l : List Int) (i : Nat) (out : List ByteArray) : Prop :=
  pl l i = false ∧ ((wSt l i = (out, [], false, false)) ∨ (lt l i = false ∧ ∃ o w lg, wSt l i = (o, w, true, lg) ∧ out = o ++ wOuts w lg))
/-- What stands within a stretch that began at a place, n runes further. -/
def In (l : List Int) (i n : Nat) (out : List ByteArray) (x : List Int) : Prop :=
  x.length = n ∧ ((n = 0 ∧ wSt l i = (out, [], false, false) ∧ pl l i = false) ∨
    (0 < n ∧ pl l (i + n) = true ∧ wSt l (i + n) = (out, if n ≤ 32 then x else [], false, decide (32 < n))) ∨
    (0 < n ∧ lt l (i + n) = true ∧ ∃ y, x = y ++ [39] ∧ 0 < y.length ∧ wSt l (i + n) = (out, if n - 1 ≤ 32 then y else [], true, decide (32 < n - 1))))
theorem in_letter {l : List Int} {i n : Nat} {out : List ByteArray} {x : List Int} (h : In l i n out x) (hi : i + n < l.length) (hl : isLetter l[i + n] = true) : In l i (n + 1) out (x ++ [foldZ l[i + n]]) := by
  obtain ⟨hx, h⟩ := h
  refine ⟨by simp [hx], Or.inr (Or.inl ⟨by omega, by show lt l (i + n) = true; rw [lt_in hi]; exact hl, ?_⟩)⟩
  rw [show i + (n + 1) = (i + n) + 1 by omega, wSt_succ l _ hi, step_letter _ _ hl]
  rcases h with ⟨rfl, hs, _⟩ | ⟨h0, _, hs⟩ | ⟨h0, _, y, rfl, hy, hs⟩
  · have hx0 : x = [] := List.length_eq_zero_iff.1 hx
    subst hx0
    simp only [Nat.add_zero] at hs ⊢
    rw [hs]
    simp [wLet]
  · rw [hs]
    by_cases h32 : n ≤ 32
    · rw [if_pos h32, decide_eq_false (by omega : ¬ 32 < n)]
      unfold wLet
      simp only [Bool.false_eq_true, if_false, List.append_nil]
      by_cases h33 : 32 < (x ++ [foldZ l[i + n]]).length
      · have h34 : ¬ n + 1 ≤ 32 := by simp [hx] at h33; omega
        rw [if_pos h33, if_neg h34, decide_eq_true (by omega : 32 < n + 1)]
      · have h34 : n + 1 ≤ 32 := by simp [hx] at h33; omega
        rw [if_neg h33, if_pos h34, decide_eq_false (by omega : ¬ 32 < n + 1)]
    · rw [if_neg h32, decide_eq_true (by omega : 32 < n), if_neg (by omega : ¬ n + 1 ≤ 32), decide_eq_true (by omega : 32 < n + 1)]
      simp [wLet]
  · rw [hs]
    have hx2 : y.length + 1 = n := by simpa using hx
    by_cases h32 : n - 1 ≤ 32
    · rw [if_pos h32, decide_eq_false (by omega : ¬ 32 < n - 1)]
      unfold wLet
      simp only [Bool.false_eq_true, if_false, if_true]
      by_cases h33 : 32 < (y ++ [39] ++ [foldZ l[i + n]]).length
      · have h34 : ¬ n + 1 ≤ 32 := by simp at h33; omega
        rw [if_pos h33, if_neg h34, decide_eq_true (by omega : 32 < n + 1)]
      · have h34 : n + 1 ≤ 32 := by simp at h33; omega
        rw [if_neg h33, if_pos h34, decide_eq_false (by omega : ¬ 32 < n + 1)]
    · rw [if_neg h32, decide_eq_true (by omega : 32 < n - 1), if_neg (by omega : ¬ n + 1 ≤ 32), decide_eq_true (by omega : 32 < n + 1)]
      simp [wLet]
theorem in_mark {l : List Int} {i n : Nat} {out : List ByteArray} {x : List Int} (h : In l i n out x) (hi : i + n < l.length) (hl : lt l (i + n) = false) (hw : wi l (i + n) = true) : In l i (n + 1) out (x ++ [39]) := by
  obtain ⟨hx, h⟩ := h
  unfold wi at hw
  rw [hl] at hw
  simp only [Bool.false_or, Bool.and_eq_true] at hw
  obtain ⟨hm, hp, hnx⟩ := hw
  rw [mk_in hi] at hm
  have hm := of_decide_eq_true hm
  rw [lt_in hi] at hl
  refine ⟨by simp [hx], Or.inr (Or.inr ⟨by omega, by rw [show i + (n + 1) = i + n + 1 by omega]; exact hnx, x, rfl, ?_⟩)⟩
  rw [show i + (n + 1) = (i + n) + 1 by omega, wSt_succ l _ hi]
  rcases h with ⟨rfl, hs, hpf⟩ | ⟨h0, _, hs⟩ | ⟨h0, hlt, _⟩
  · simp only [Nat.add_zero] at hp; rw [hpf] at hp; cases hp
  · refine ⟨by omega, ?_⟩
    rw [step_mark _ _ hl hm (by rw [hs]; by_cases h32 : n ≤ 32 <;> simp [h32] <;> omega) (by rw [hs]), hs]
    simp
  · rw [lt_in hi, hl] at hlt; cases hlt
/-- The stretch ends. -/
theorem in_ends {l : List Int} {i n : Nat} {out : List ByteArray} {x : List Int} (h : In l i n out x) (hw : i + n < l.length → wi l (i + n) = false) :
    wEnd (wSt l (i + n)) = out ++ (if 0 < n ∧ n ≤ 32 then [runesBytes x] else []) ∧ (i + n < l.length → Rel l (i + n + 1) (out ++ (if 0 < n ∧ n ≤ 32 then [runesBytes x] else []))) := by
  have hnl : i + n < l.length → lt l (i + n) = false := fun h => by have := hw h; unfold wi at this; simp only [Bool.or_eq_false_iff] at this; exact this.1
  have hend : wEnd (wSt l (i + n)) = out ++ (if 0 < n ∧ n ≤ 32 then [runesBytes x] else []) := by
    obtain ⟨hx, h⟩ := h
    rcases h with ⟨rfl, hs, _⟩ | ⟨h0, _, hs⟩ | ⟨h0, hlt, _⟩
    · simp only [Nat.add_zero]; rw [hs]; simp [wEnd, outs_nil]
    · rw [hs]
      unfold wEnd wOuts
      by_cases h32 : n ≤ 32
      · simp [h32, h0, hx]
      · simp [h32]
    · by_cases hi : i + n < l.length
      · rw [hnl hi] at hlt; cases hlt
      · rw [lt_out hi] at hlt; cases hlt
  refine ⟨hend, fun hi => ?_⟩
  have hl := hnl hi
  have hl2 := hl
  rw [lt_in hi] at hl2
  refine ⟨hl, ?_⟩
  rw [wSt_succ l _ hi, ← hend]
  by_cases hc : (l[i + n] = 39 ∨ l[i + n] = 8217) ∧ (0 < (wSt l (i + n)).2.1.length ∨ (wSt l (i + n)).2.2.2 = true) ∧ (wSt l (i + n)).2.2.1 = false
  · right
    rw [step_mark _ _ hl2 hc.1 hc.2.1 hc.2.2]
    refine ⟨?_, _, _, _, rfl, rfl⟩
    have hwf := hw hi
    unfold wi at hwf
    rw [hl, mk_in hi, decide_eq_true hc.1] at hwf
    simp only [Bool.false_or, Bool.true_and, Bool.and_eq_false_iff] at hwf
    rcases hwf with hp | hn
    · obtain ⟨hx, h⟩ := h
      rcases h with ⟨rfl, hs, _⟩ | ⟨h0, hpt, _⟩ | ⟨h0, hlt, _⟩
      · simp only [Nat.add_zero] at hc; rw [hs] at hc; simp at hc
      · rw [hp] at hpt; cases hpt
      · rw [hl] at hlt; cases hlt
    · exact hn
  · left
    rw [step_end _ _ hl2 hc]
theorem ref_inner (l : List Int) (hl : l.length < 1000000) (i : Nat) (out : List ByteArray) (ho : out.length ≤ i)
    (IH : ∀ i' out' K', i < i' → i' ≤ l.length → 4 * (l.length - i') + 20 ≤ K' → out'.length ≤ i' → Rel l i' out' → manteletref06_All.l0 K' l out' (i' : Int) = some (wAll l)) :
    ∀ (e n K : Nat) (x : List Int), e + (i + n) = l.length → 4 * e + 18 ≤ K → In l i n out x → manteletref06_All.l1 K l out (i : Int) ((i + n : Nat) : Int) x = some (wAll l)
  | e, n, 0, x, he, hK, h => by omega
  | e, n, 1, x, he, hK, h => by omega
  | e, n, K + 2, x, he, hK, h => by
    have hfin : (i + n < l.length → wi l (i + n) = false) → manteletref06_All.j2 (K + 1) l out (i : Int) ((i + n : Nat) : Int) x false = some (wAll l) := by
      intro hw
      obtain ⟨h1, h2⟩ := in_ends h hw
      unfold manteletref06_All.j2
      rw [if_neg (by decide)]
      have hnext : ∀ out', out' = out ++ (if 0 < n ∧ n ≤ 32 then [runesBytes x] else []) → manteletref06_All.l0 K l out' (wrap64 (((i + n : Nat) : Int) + 1)) = some (wAll l) := by
        intro out' ho'
        rw [show wrap64 (((i + n : Nat) : Int) + 1) = ((i + n + 1 : Nat) : Int) by unfold wrap64; omega]
        by_cases hi : i + n < l.length
        · refine IH (i + n + 1) out' K (by omega) (by omega) (by omega) ?_ (by rw [ho']; exact h2 hi)
          rw [ho']; split <;> simp <;> omega
        · match K, hK with
          | K' + 1, hK =>
            rw [manteletref06_All.l0, if_neg (by omega), ho', ← h1, wSt_end l _ (by omega)]
      by_cases h0 : 0 < n
      · rw [if_pos (by omega), show wrap64 (((i + n : Nat) : Int) - (i : Int)) = (n : Int) by unfold wrap64; omega]
        by_cases h32 : n ≤ 32
        · rw [if_pos (by omega), if_pos (by omega)]
          exact hnext _ (by rw [if_pos ⟨h0, h32⟩])
        · rw [if_neg (by omega)]
          exact hnext _ (by rw [if_neg (fun h => h32 h.2), List.append_nil])
      · rw [if_neg (by omega)]
        exact hnext _ (by rw [if_neg (fun h => h0 h.1), List.append_nil])
    rw [manteletref06_All.l1]
    by_cases hi : i + n < l.length
    · rw [if_pos (by omega), within_eq l (i + n) hl hi]
      simp only [Option.bind_some]
      cases hw : wi l (i + n) with
      | false => exact hfin (fun _ => hw)
      | true =>
        obtain ⟨e, rfl⟩ : ∃ e', e = e' + 1 := ⟨e - 1, by omega⟩
        unfold manteletref06_All.j2
        rw [if_pos rfl, letter_eq l (i + n) hl]
        simp only [Option.bind_some]
        have hxl : x.length = n := h.1
        have ew : wrap64 (((i + n : Nat) : Int) + 1) = ((i + (n + 1) : Nat) : Int) := by unfold wrap64; omega
        cases hlt : lt l (i + n) with
        | true =>
          have e2 : rd l ((i + n : Nat) : Int) = l[i + n] := by rw [rd_nat, List.getD_eq_getElem?_getD, List.getElem?_eq_getElem hi]; rfl
          rw [if_pos rfl, if_pos (by omega), if_pos (by omega), e2, show K = (K - 6) + 6 by omega, ref_Fold_at]
          simp only [Option.bind_some]
          rw [if_pos (by omega), ew, show K - 6 + 6 = K by omega]
          exact ref_inner l hl i out ho IH e (n + 1) K _ (by omega) (by omega) (in_letter h hi (by rw [← lt_in hi]; exact hlt))
        | false =>
          rw [if_neg (by decide), if_pos (by omega), ew]
          exact ref_inner l hl i out ho IH e (n + 1) K _ (by omega) (by omega) (in_mark h hi hlt hw)
    · rw [if_neg (by omega)]
      exact hfin (fun h => absurd h hi)
theorem ref_outer (l : List Int) (hl : l.length < 1000000) : ∀ (d i : Nat) (out : List ByteArray) (K : Nat), d + i = l.length → 4 * d + 20 ≤ K → out.length ≤ i → Rel l i out → manteletref06_All.l0 K l out (i : Int) = some (wAll l) := by
  intro d
  induction d using Nat.strongRecOn with
  | _ d ih =>
    intro i out K hd hK ho hR
    match K, hK with
    | K + 1, hK =>
    rw [manteletref06_All.l0]
    by_cases hi : i < l.length
    · rw [if_pos (by omega)]
      have IH : ∀ i' out' K', i < i' → i' ≤ l.length → 4 * (l.length - i') + 20 ≤ K' → out'.length ≤ i' → Rel l i' out' → manteletref06_All.l0 K' l out' (i' : Int) = some (wAll l) :=
        fun i' out' K' h1 h2 h3 h4 h5 => ih (l.length - i') (by omega) i' out' K' (by omega) h3 h4 h5
      obtain ⟨hp, hs | ⟨hlt, o, w, lg, hs, hout⟩⟩ := hR
      · exact ref_inner l hl i out ho IH d 0 K [] (by omega) (by omega) ⟨rfl, Or.inl ⟨rfl, hs, hp⟩⟩
      · match K, hK with
        | K + 2, hK =>
        rw [manteletref06_All.l1, if_pos (by omega), within_eq l i hl hi]
        simp only [Option.bind_some]
        have hw : wi l i = false := by unfold wi; rw [hlt, hp]; simp
        rw [hw]
        unfold manteletref06_All.j2
        rw [if_neg (by decide), if_neg (by omega), show wrap64 ((i : Int) + 1) = ((i + 1 : Nat) : Int) by unfold wrap64; omega]
        refine IH (i + 1) out K (by omega) (by omega) (by omega) (by omega) ⟨hlt, Or.inl ?_⟩
        rw [wSt_succ l i hi, step_end _ _ (by rw [← lt_in hi]; exact hlt) (by rw [hs]; simp), hs, hout]
        rfl
    · rw [if_neg (by omega)]
      obtain ⟨hp, hs | ⟨hlt, o, w, lg, hs, hout⟩⟩ := hR
      · rw [← wSt_end l i (by omega), hs]; simp [wEnd, outs_nil]
      · rw [← wSt_end l i (by omega), hs, hout]; rfl
theorem ref_All_eq (l : List Int) (hl : l.length < 1000000) (K : Nat) (hK : 4 * l.length + 20 ≤ K) : manteletref06_All.f K l = some (wAll l) := by
  unfold manteletref06_All.f
  exact ref_outer l hl l.length 0 [] K (by omega) hK (by simp) ⟨rfl, Or.inl rfl⟩
end Go.Proofs.Ythpemcchgebecaa.K

namespace Go.Proofs.Ythpemcchgebecaa.K
open Go.RowKit Go.Proofs.YthpemcchgebecaaW.PrintWords Go.Proofs.YthpemcchgebecaaW.PrintLast Go.Proofs.YthpemcchgebecaaW.PrintMore Go.Proofs.Ythpemcchgebecaa Go.Proofs.Ythpemcchgebecaa.PRf04
set_option linter.unusedVariables false
set_option linter.unusedSimpArgs false
def szN (a : Int) : Int := if a < 128 then 1 else if 194 ≤ a ∧ a ≤ 223 then 2 else if 224 ≤ a ∧ a ≤ 239 then 3 else if 240 ≤ a ∧ a ≤ 244 then 4 else 0
theorem Size_eq (k : Nat) (a : Int) : manteletref04_Size.f (k + 2) a = some (szN a) := by
  unfold szN manteletref04_Size.f
  simp only [manteletref04_Size.j0, manteletref04_Size.j1, decide_eq_true_eq, Bool.false_eq_true, if_false, ge_iff_le]
  repeat' split
  all_goals first | rfl | (exfalso; omega)
/-- May a byte stand at a place? -/
def fitN (a at_ b : Int) : Bool := if at_ = 1 then Utf.fits a.toNat b.toNat else Utf.cont b.toNat
theorem fits_eq (k : Nat) (a i b : Int) (ha : 0 ≤ a) (hb : 0 ≤ b) : manteletref04_fits.f (k + 3) a i b = some (fitN a i b) := by
  unfold fitN manteletref04_fits.f
  simp only [manteletref04_fits.j0, manteletref04_fits.j1, manteletref04_fits.j2, beq_iff_eq, Bool.false_eq_true, if_false, ge_iff_le]
  by_cases hi : i = 1
  · simp only [hi, if_true]
    have key : ∀ x : Bool, (x = true ↔ Utf.fits a.toNat b.toNat = true) → some x = some (Utf.fits a.toNat b.toNat) := by
      intro x h; rw [Bool.eq_iff_iff.2 h]
    repeat' split
    all_goals (apply key; rw [Utf.fits_iff]; simp only [decide_eq_true_eq, Bool.false_eq_true, false_iff]; omega)
  · simp only [hi, if_false]
    have key : ∀ x : Bool, (x = true ↔ Utf.cont b.toNat = true) → some x = some (Utf.cont b.toNat) := by
      intro x h; rw [Bool.eq_iff_iff.2 h]
    split
    all_goals (apply key; rw [Utf.cont_iff]; simp only [decide_eq_true_eq, Bool.false_eq_true, false_iff]; omega)
theorem szN_le (a : Int) : szN a ≤ 4 := by unfold szN; repeat' split; all_goals omega
theorem wrap_small (i : Int) (h0 : 0 ≤ i) (h1 : i < 9223372036854775807) : wrap64 (i + 1) = i + 1 := by unfold wrap64; omega
theorem good_l0 (k : Nat) (l : List Int) (i : Int) (hne : 0 < l.length) (h0 : 0 ≤ i) (h4 : i < 5) (hb : ∀ j : Int, 0 ≤ rd l j) :
    manteletref04_good.l0 (k + 4) l i = if i < (l.length : Int) ∧ i < szN (rd l 0) ∧ fitN (rd l 0) i (rd l i) = true then manteletref04_good.l0 (k + 3) l (i + 1) else some i := by
  rw [manteletref04_good.l0, show k + 3 = (k + 1) + 2 from rfl, Size_eq, show (k + 1) + 2 = k + 3 from rfl, fits_eq _ _ _ _ (hb 0) (hb i)]
  simp only [Option.bind_some]
  by_cases h1 : i < (l.length : Int)
  · rw [if_pos h1, if_pos (by omega)]
    by_cases h2 : i < szN (rd l 0)
    · rw [if_pos h2, if_pos h0, wrap_small i h0 (by omega)]
      by_cases h3 : fitN (rd l 0) i (rd l i) = true
      · rw [if_pos h3, if_pos ⟨h1, h2, h3⟩]
      · rw [if_neg h3, if_neg (fun h => h3 h.2.2)]
    · rw [if_neg h2, if_neg (fun h => h2 h.2.1)]
  · rw [if_neg h1, if_neg (fun h => h1 h.1)]
def gv (l : List Int) : Int :=
  let s := szN (rd l 0)
  let ok (i : Int) : Prop := i < (l.length : Int) ∧ i < s ∧ fitN (rd l 0) i (rd l i) = true
  have : ∀ i, Decidable (ok i) := fun i => inferInstanceAs (Decidable (_ ∧ _))
  if s = 0 then 0 else if ok 1 then (if ok 2 then (if ok 3 then 4 else 3) else 2) else 1
theorem good_eq (k : Nat) (l : List Int) (hne : 0 < l.length) (hb : ∀ j : Int, 0 ≤ rd l j) : manteletref04_good.f (k + 8) l = some (gv l) := by
  unfold manteletref04_good.f
  rw [if_neg (by omega), if_pos (by omega), show k + 8 = (k + 6) + 2 from rfl, Size_eq]
  simp only [Option.bind_some, manteletref04_good.j0, beq_iff_eq]
  unfold gv
  simp only []
  by_cases hs : szN (rd l 0) = 0
  · rw [if_pos hs, if_pos hs]
  rw [if_neg hs, if_neg hs, show k + 6 + 1 = (k + 3) + 4 from rfl, good_l0 _ _ 1 hne (by omega) (by omega) hb]
  by_cases h1 : (1 : Int) < (l.length : Int) ∧ 1 < szN (rd l 0) ∧ fitN (rd l 0) 1 (rd l 1) = true
  · rw [if_pos h1, if_pos h1, show k + 3 + 3 = (k + 2) + 4 from rfl, show (1 : Int) + 1 = 2 from rfl, good_l0 _ _ 2 hne (by omega) (by omega) hb]
    by_cases h2 : (2 : Int) < (l.length : Int) ∧ 2 < szN (rd l 0) ∧ fitN (rd l 0) 2 (rd l 2) = true
    · rw [if_pos h2, if_pos h2, show k + 2 + 3 = (k + 1) + 4 from rfl, show (2 : Int) + 1 = 3 from rfl, good_l0 _ _ 3 hne (by omega) (by omega) hb]
      by_cases h3 : (3 : Int) < (l.length : Int) ∧ 3 < szN (rd l 0) ∧ fitN (rd l 0) 3 (rd l 3) = true
      · rw [if_pos h3, if_pos h3, show k + 1 + 3 = k + 4 from rfl, show (3 : Int) + 1 = 4 from rfl, good_l0 _ _ 4 hne (by omega) (by omega) hb]
        have := szN_le (rd l 0)
        rw [if_neg (by omega)]
      · rw [if_neg h3, if_neg h3]
    · rw [if_neg h2, if_neg h2]
  · rw [if_neg h1, if_neg h1]
def toN (l : List Int) : List Nat := l.map Int.toNat
theorem rd_cons0 (a : Int) (t : List Int) : rd (a :: t) 0 = a := rfl
theorem rd_cons1 (a b : Int) (t : List Int) : rd (a :: b :: t) 1 = b := rfl
theorem rd_cons2 (a b c : Int) (t : List Int) : rd (a :: b :: c :: t) 2 = c := rfl
theorem rd_nonneg (l : List Int) (hb : ∀ x ∈ l, 0 ≤ x ∧ x < 256) (j : Int) : 0 ≤ rd l j := by
  unfold rd
  rw [List.getD_eq_getElem?_getD]
  cases h : l[j.toNat]? with
  | none => simp
  | some x => exact (hb x (List.mem_of_getElem? h)).1
theorem gv_no {l : List Int} (hs : szN (rd l 0) ≠ 0) (h : ¬ ((1 : Int) < (l.length : Int) ∧ 1 < szN (rd l 0) ∧ fitN (rd l 0) 1 (rd l 1) = true)) : gv l = 1 := by
  unfold gv; simp only []; rw [if_neg hs, if_neg h]
theorem gv_1 {l : List Int} (hs : szN (rd l 0) ≠ 0) (h : (1 : Int) < (l.length : Int) ∧ 1 < szN (rd l 0) ∧ fitN (rd l 0) 1 (rd l 1) = true)
    (h2 : ¬ ((2 : Int) < (l.length : Int) ∧ 2 < szN (rd l 0) ∧ fitN (rd l 0) 2 (rd l 2) = true)) : gv l = 2 := by
  unfold gv; simp only []; rw [if_neg hs, if_pos h, if_neg h2]
theorem gv_2 {l : List Int} (hs : szN (rd l 0) ≠ 0) (h : (1 : Int) < (l.length : Int) ∧ 1 < szN (rd l 0) ∧ fitN (rd l 0) 1 (rd l 1) = true)
    (h2 : (2 : Int) < (l.length : Int) ∧ 2 < szN (rd l 0) ∧ fitN (rd l 0) 2 (rd l 2) = true)
    (h3 : ¬ ((3 : Int) < (l.length : Int) ∧ 3 < szN (rd l 0) ∧ fitN (rd l 0) 3 (rd l 3) = true)) : gv l = 3 := by
  unfold gv; simp only []; rw [if_neg hs, if_pos h, if_pos h2, if_neg h3]
theorem gv_3 {l : List Int} (hs : szN (rd l 0) ≠ 0) (h : (1 : Int) < (l.length : Int) ∧ 1 < szN (rd l 0) ∧ fitN (rd l 0) 1 (rd l 1) = true)
    (h2 : (2 : Int) < (l.length : Int) ∧ 2 < szN (rd l 0) ∧ fitN (rd l 0) 2 (rd l 2) = true)
    (h3 : (3 : Int) < (l.length : Int) ∧ 3 < szN (rd l 0) ∧ fitN (rd l 0) 3 (rd l 3) = true) : gv l = 4 := by
  unfold gv; simp only []; rw [if_neg hs, if_pos h, if_pos h2, if_pos h3]
theorem fitN_1 (a b : Int) : fitN a 1 b = Utf.fits a.toNat b.toNat := rfl
theorem fitN_2 (a b : Int) : fitN a 2 b = Utf.cont b.toNat := rfl
theorem fitN_3 (a b : Int) : fitN a 3 b = Utf.cont b.toNat := rfl
/-- What 'good' says of a list, with what 'dec' and 'pend' say. -/
def Spec (l : List Int) : Prop :=
    (szN (rd l 0) = 0 → Utf.dec (toN l) = (65533, 1) ∧ Utf.pend (toN l) = false) ∧
    (szN (rd l 0) ≠ 0 → gv l < szN (rd l 0) → Utf.dec (toN l) = (65533, 1) ∧ (gv l = l.length ↔ Utf.pend (toN l) = true)) ∧
    (szN (rd l 0) ≠ 0 → ¬ gv l < szN (rd l 0) → ((Utf.dec (toN l)).2 : Int) = szN (rd l 0) ∧ Utf.pend (toN l) = false ∧ Utf.dec (toN l) ≠ (65533, 1))
theorem spec_short {l : List Int} {g : Int} {s : Int} (hs : szN (rd l 0) = s) (h0 : s ≠ 0) (hg : gv l = g) (hl : g < s) (hd : Utf.dec (toN l) = (65533, 1)) (hp : g = l.length ↔ Utf.pend (toN l) = true) : Spec l :=
  ⟨fun h => absurd (hs.symm.trans h) h0, fun _ _ => ⟨hd, by rw [hg]; exact hp⟩, fun _ h => absurd (by rw [hg, hs]; exact hl) h⟩
theorem spec_whole {l : List Int} {g : Int} {s : Int} (hs : szN (rd l 0) = s) (h0 : s ≠ 0) (hg : gv l = g) (hl : ¬ g < s) (hd : ((Utf.dec (toN l)).2 : Int) = s) (hp : Utf.pend (toN l) = false) (hn : Utf.dec (toN l) ≠ (65533, 1)) : Spec l :=
  ⟨fun h => absurd (hs.symm.trans h) h0, fun _ h => absurd (by rw [hg, hs] at h; exact h) hl, fun _ _ => ⟨by rw [hs]; exact hd, hp, hn⟩⟩
theorem pend_false_3 (a b c : Nat) (h : a < 0xF0) : Utf.pend [a, b, c] = false := by simp [Utf.pend]; omega
theorem pend_false_2 (a b : Nat) (h : a < 0xE0) : Utf.pend [a, b] = false := by simp [Utf.pend]; omega
theorem gv_spec (l : List Int) (hne : l ≠ []) (hb : ∀ x ∈ l, 0 ≤ x ∧ x < 256) : Spec l := by
  match l, hne with
  | a :: t, _ =>
    have ha := hb a (by simp)
    obtain ⟨n, rfl⟩ := Int.eq_ofNat_of_zero_le ha.1
    have hN : toN ((n : Int) :: t) = n :: toN t := rfl
    by_cases c1 : n < 128
    · have hs : szN (rd ((n : Int) :: t) 0) = 1 := by rw [rd_cons0]; unfold szN; rw [if_pos (by omega)]
      have hd : Utf.dec (n :: toN t) = (n, 1) := by simp [Utf.dec, c1]
      refine spec_whole hs (by omega) (gv_no (by omega) (by omega)) (by omega) (by rw [hN, hd]; rfl) ?_ (by rw [hN, hd]; intro e; injection e; omega)
      rw [hN]
      match toN t with
      | [] => simp [Utf.pend]; omega
      | [b] => exact pend_false_2 _ _ (by omega)
      | [b, c] => exact pend_false_3 _ _ _ (by omega)
      | b :: c :: d :: _ => rfl
    by_cases c2 : 0xC2 ≤ n ∧ n ≤ 0xDF
    · have hs : szN (rd ((n : Int) :: t) 0) = 2 := by rw [rd_cons0]; unfold szN; rw [if_neg (by omega), if_pos (by omega)]
      match t with
      | [] => exact spec_short hs (by omega) (gv_no (by omega) (by simp)) (by omega) (by simp [toN, Utf.dec, c1, c2]) (by simp [toN, Utf.pend]; omega)
      | b :: t' =>
        have hb1 := hb b (by simp)
        obtain ⟨m, rfl⟩ := Int.eq_ofNat_of_zero_le hb1.1
        have hN2 : toN ((n : Int) :: (m : Int) :: t') = n :: m :: toN t' := rfl
        have hf : Utf.fits n m = Utf.cont m := by rw [Bool.eq_iff_iff, Utf.fits_iff, Utf.cont_iff]; omega
        have hp : Utf.pend (n :: m :: toN t') = false := by
          match toN t' with
          | [] => exact pend_false_2 _ _ (by omega)
          | [c] => exact pend_false_3 _ _ _ (by omega)
          | c :: d :: _ => rfl
        cases hc : Utf.cont m with
        | true =>
          have hd : Utf.dec (n :: m :: toN t') = (n % 32 * 64 + m % 64, 2) := by simp [Utf.dec, c1, c2, hc]
          exact spec_whole hs (by omega) (gv_1 (by omega) ⟨by simp; omega, by omega, by rw [rd_cons0, rd_cons1, fitN_1, Int.toNat_natCast, Int.toNat_natCast, hf, hc]⟩ (by omega)) (by omega) (by rw [hN2, hd]; rfl) (by rw [hN2]; exact hp) (by rw [hN2, hd]; intro e; injection e; omega)
        | false =>
          have hd : Utf.dec (n :: m :: toN t') = (65533, 1) := by simp [Utf.dec, c1, c2, hc]
          exact spec_short hs (by omega) (gv_no (by omega) (by rw [rd_cons0, rd_cons1, fitN_1, Int.toNat_natCast, Int.toNat_natCast, hf, hc]; simp)) (by omega) (by rw [hN2, hd]) (by rw [hN2, hp]; simp; omega)
    by_cases c3 : 0xE0 ≤ n ∧ n ≤ 0xEF
    · have hs : szN (rd ((n : Int) :: t) 0) = 3 := by rw [rd_cons0]; unfold szN; rw [if_neg (by omega), if_neg (by omega), if_pos (by omega)]
      match t with
      | [] => exact spec_short hs (by omega) (gv_no (by omega) (by simp)) (by omega) (by simp [toN, Utf.dec, c1, c2]) (by simp [toN, Utf.pend]; omega)
      | [b] =>
        have hb1 := hb b (by simp)
        obtain ⟨m, rfl⟩ := Int.eq_ofNat_of_zero_le hb1.1
        cases hc : Utf.fits n m with
        | true => exact spec_short hs (by omega) (gv_1 (by omega) ⟨by simp, by omega, by rw [rd_cons0, rd_cons1, fitN_1, Int.toNat_natCast, Int.toNat_natCast, hc]⟩ (by simp)) (by omega) (by simp [toN, Utf.dec, c1, c2]) (by simp [toN, Utf.pend, hc]; omega)
        | false => exact spec_short hs (by omega) (gv_no (by omega) (by rw [rd_cons0, rd_cons1, fitN_1, Int.toNat_natCast, Int.toNat_natCast, hc]; simp)) (by omega) (by simp [toN, Utf.dec, c1, c2]) (by simp [toN, Utf.pend, hc])
      | b :: c :: t' =>
        have hb1 := hb b (by simp)
        have hb2 := hb c (by simp)
        obtain ⟨m, rfl⟩ := Int.eq_ofNat_of_zero_le hb1.1
        obtain ⟨o, rfl⟩ := Int.eq_ofNat_of_zero_le hb2.1
        have hN2 : toN ((n : Int) :: (m : Int) :: (o : Int) :: t') = n :: m :: o :: toN t' := rfl
        have hp : Utf.pend (n :: m :: o :: toN t') = false := by
          match toN t' with
          | [] => exact pend_false_3 _ _ _ (by omega)
          | d :: _ => rfl
        cases hc : Utf.fits n m with
        | true =>
          have k1 : (1 : Int) < (((n : Int) :: (m : Int) :: (o : Int) :: t').length : Int) ∧ 1 < szN (rd ((n : Int) :: (m : Int) :: (o : Int) :: t') 0) ∧ fitN (rd ((n : Int) :: (m : Int) :: (o : Int) :: t') 0) 1 (rd ((n : Int) :: (m : Int) :: (o : Int) :: t') 1) = true := ⟨by simp; omega, by omega, by rw [rd_cons0, rd_cons1, fitN_1, Int.toNat_natCast, Int.toNat_natCast, hc]⟩
          cases hd' : Utf.cont o with
          | true =>
            have hd : Utf.dec (n :: m :: o :: toN t') = (n % 16 * 4096 + m % 64 * 64 + o % 64, 3) := by simp [Utf.dec, c1, c2, c3, hc, hd']
            exact spec_whole hs (by omega) (gv_2 (by omega) k1 ⟨by simp; omega, by omega, by rw [rd_cons0, rd_cons2, fitN_2, Int.toNat_natCast, hd']⟩ (by omega)) (by omega) (by rw [hN2, hd]; rfl) (by rw [hN2]; exact hp) (by rw [hN2, hd]; intro e; injection e; omega)
          | false =>
            have hd : Utf.dec (n :: m :: o :: toN t') = (65533, 1) := by simp [Utf.dec, c1, c2, c3, hc, hd']
            exact spec_short hs (by omega) (gv_1 (by omega) k1 (by rw [rd_cons0, rd_cons2, fitN_2, Int.toNat_natCast, hd']; simp)) (by omega) (by rw [hN2, hd]) (by rw [hN2, hp]; simp; omega)
        | false =>
          have hd : Utf.dec (n :: m :: o :: toN t') = (65533, 1) := by simp [Utf.dec, c1, c2, c3, hc]
          exact spec_short hs (by omega) (gv_no (by omega) (by rw [rd_cons0, rd_cons1, fitN_1, Int.toNat_natCast, Int.toNat_natCast, hc]; simp)) (by omega) (by rw [hN2, hd]) (by rw [hN2, hp]; simp; omega)
    by_cases c4 : 0xF0 ≤ n ∧ n ≤ 0xF4
    · have hs : szN (rd ((n : Int) :: t) 0) = 4 := by rw [rd_cons0]; unfold szN; rw [if_neg (by omega), if_neg (by omega), if_neg (by omega), if_pos (by omega)]
      match t with
      | [] => exact spec_short hs (by omega) (gv_no (by omega) (by simp)) (by omega) (by simp [toN, Utf.dec, c1, c2, c3]) (by simp [toN, Utf.pend]; omega)
      | [b] =>
        have hb1 := hb b (by simp)
        obtain ⟨m, rfl⟩ := Int.eq_ofNat_of_zero_le hb1.1
        cases hc : Utf.fits n m with
        | true => exact spec_short hs (by omega) (gv_1 (by omega) ⟨by simp, by omega, by rw [rd_cons0, rd_cons1, fitN_1, Int.toNat_natCast, Int.toNat_natCast, hc]⟩ (by simp)) (by omega) (by simp [toN, Utf.dec, c1, c2, c3]) (by simp [toN, Utf.pend, hc]; omega)
        | false => exact spec_short hs (by omega) (gv_no (by omega) (by rw [rd_cons0, rd_cons1, fitN_1, Int.toNat_natCast, Int.toNat_natCast, hc]; simp)) (by omega) (by simp [toN, Utf.dec, c1, c2, c3]) (by simp [toN, Utf.pend, hc])
      | [b, c] =>
        have hb1 := hb b (by simp)
        have hb2 := hb c (by simp)
        obtain ⟨m, rfl⟩ := Int.eq_ofNat_of_zero_le hb1.1
        obtain ⟨o, rfl⟩ := Int.eq_ofNat_of_zero_le hb2.1
        cases hc : Utf.fits n m with
        | true =>
          have k1 : (1 : Int) < (([(n : Int), (m : Int), (o : Int)]).length : Int) ∧ 1 < szN (rd [(n : Int), (m : Int), (o : Int)] 0) ∧ fitN (rd [(n : Int), (m : Int), (o : Int)] 0) 1 (rd [(n : Int), (m : Int), (o : Int)] 1) = true := ⟨by simp, by omega, by rw [rd_cons0, rd_cons1, fitN_1, Int.toNat_natCast, Int.toNat_natCast, hc]⟩
          cases hd' : Utf.cont o with
          | true => exact spec_short hs (by omega) (gv_2 (by omega) k1 ⟨by simp, by omega, by rw [rd_cons0, rd_cons2, fitN_2, Int.toNat_natCast, hd']⟩ (by simp)) (by omega) (by simp [toN, Utf.dec, c1, c2, c3]) (by simp [toN, Utf.pend, hc, hd']; omega)
          | false => exact spec_short hs (by omega) (gv_1 (by omega) k1 (by rw [rd_cons0, rd_cons2, fitN_2, Int.toNat_natCast, hd']; simp)) (by omega) (by simp [toN, Utf.dec, c1, c2, c3]) (by simp [toN, Utf.pend, hd'])
        | false => exact spec_short hs (by omega) (gv_no (by omega) (by rw [rd_cons0, rd_cons1, fitN_1, Int.toNat_natCast, Int.toNat_natCast, hc]; simp)) (by omega) (by simp [toN, Utf.dec, c1, c2, c3]) (by simp [toN, Utf.pend, hc])
      | b :: c :: d :: t' =>
        have hb1 := hb b (by simp)
        have hb2 := hb c (by simp)
        have hb3 := hb d (by simp)
        obtain ⟨m, rfl⟩ := Int.eq_ofNat_of_zero_le hb1.1
        obtain ⟨o, rfl⟩ := Int.eq_ofNat_of_zero_le hb2.1
        obtain ⟨q, rfl⟩ := Int.eq_ofNat_of_zero_le hb3.1
        have hN2 : toN ((n : Int) :: (m : Int) :: (o : Int) :: (q : Int) :: t') = n :: m :: o :: q :: toN t' := rfl
        have hp : Utf.pend (n :: m :: o :: q :: toN t') = false := rfl
        have hl : 4 ≤ ((n : Int) :: (m : Int) :: (o : Int) :: (q : Int) :: t').length := by simp
        generalize hL : ((n : Int) :: (m : Int) :: (o : Int) :: (q : Int) :: t') = L at *
        have r0 : rd L 0 = n := by rw [← hL]; rfl
        have r1 : rd L 1 = m := by rw [← hL]; rfl
        have r2 : rd L 2 = o := by rw [← hL]; rfl
        have r3 : rd L 3 = q := by rw [← hL]; rfl
        cases hc : Utf.fits n m with
        | true =>
          have k1 : (1 : Int) < (L.length : Int) ∧ 1 < szN (rd L 0) ∧ fitN (rd L 0) 1 (rd L 1) = true := ⟨by omega, by omega, by rw [r0, r1, fitN_1, Int.toNat_natCast, Int.toNat_natCast, hc]⟩
          cases hd' : Utf.cont o with
          | true =>
            have k2 : (2 : Int) < (L.length : Int) ∧ 2 < szN (rd L 0) ∧ fitN (rd L 0) 2 (rd L 2) = true := ⟨by omega, by omega, by rw [r2, fitN_2, Int.toNat_natCast, hd']⟩
            cases he' : Utf.cont q with
            | true =>
              have hd : Utf.dec (n :: m :: o :: q :: toN t') = (n % 8 * 262144 + m % 64 * 4096 + o % 64 * 64 + q % 64, 4) := by simp [Utf.dec, c1, c2, c3, c4, hc, hd', he']
              exact spec_whole hs (by omega) (gv_3 (by omega) k1 k2 ⟨by omega, by omega, by rw [r3, fitN_3, Int.toNat_natCast, he']⟩) (by omega) (by rw [hN2, hd]; rfl) (by rw [hN2]; exact hp) (by rw [hN2, hd]; intro e; injection e; omega)
            | false =>
              have hd : Utf.dec (n :: m :: o :: q :: toN t') = (65533, 1) := by simp [Utf.dec, c1, c2, c3, hc, hd', he']
              exact spec_short hs (by omega) (gv_2 (by omega) k1 k2 (by rw [r3, fitN_3, Int.toNat_natCast, he']; simp)) (by omega) (by rw [hN2, hd]) (by rw [hN2, hp]; simp; omega)
          | false =>
            have hd : Utf.dec (n :: m :: o :: q :: toN t') = (65533, 1) := by simp [Utf.dec, c1, c2, c3, hc, hd']
            exact spec_short hs (by omega) (gv_1 (by omega) k1 (by rw [r2, fitN_2, Int.toNat_natCast, hd']; simp)) (by omega) (by rw [hN2, hd]) (by rw [hN2, hp]; simp; omega)
        | false =>
          have hd : Utf.dec (n :: m :: o :: q :: toN t') = (65533, 1) := by simp [Utf.dec, c1, c2, c3, hc]
          exact spec_short hs (by omega) (gv_no (by omega) (by rw [r0, r1, fitN_1, Int.toNat_natCast, Int.toNat_natCast, hc]; simp)) (by omega) (by rw [hN2, hd]) (by rw [hN2, hp]; simp; omega)
    · have hs : szN (rd ((n : Int) :: t) 0) = 0 := by rw [rd_cons0]; unfold szN; rw [if_neg (by omega), if_neg (by omega), if_neg (by omega), if_neg (by omega)]
      refine ⟨fun _ => ⟨?_, ?_⟩, fun h => absurd hs h, fun h => absurd hs h⟩
      · rw [hN]; simp [Utf.dec, c1, c2, c3, c4]
      · rw [hN]
        match toN t with
        | [] => simp [Utf.pend]; omega
        | [b] => simp [Utf.pend]; omega
        | [b, c] => simp [Utf.pend]; omega
        | b :: c :: d :: _ => rfl

theorem one_l0 (k : Nat) (l : List Int) (s x i : Int) (h0 : 0 ≤ i) (h4 : i < 5) (hl : s ≤ l.length) :
    manteletref04_one.l0 (k + 1) l s x i = if i < s then manteletref04_one.l0 k l s (wrap32 ((wrap32 ((wrap32 (x * 64)) + (wrap32 (rd l i)))) - 128)) (i + 1) else some (x, s) := by
  rw [manteletref04_one.l0]
  by_cases h : i < s
  · rw [if_pos h, if_pos h, if_pos h0, if_pos (by omega), wrap_small i h0 (by omega)]
  · rw [if_neg h, if_neg h]
theorem dec_val (l : List Int) (hne : l ≠ []) (hb : ∀ x ∈ l, 0 ≤ x ∧ x < 256) (hs : szN (rd l 0) ≠ 0) (hn : Utf.dec (toN l) ≠ (65533, 1)) :
    (rd l 0 < 128 ∧ Utf.dec (toN l) = ((rd l 0).toNat, 1) ∧ 1 ≤ l.length) ∨
    (194 ≤ rd l 0 ∧ rd l 0 ≤ 223 ∧ 128 ≤ rd l 1 ∧ rd l 1 ≤ 191 ∧ Utf.dec (toN l) = ((rd l 0).toNat % 32 * 64 + (rd l 1).toNat % 64, 2) ∧ 2 ≤ l.length) ∨
    (224 ≤ rd l 0 ∧ rd l 0 ≤ 239 ∧ 128 ≤ rd l 1 ∧ rd l 1 ≤ 191 ∧ 128 ≤ rd l 2 ∧ rd l 2 ≤ 191 ∧ Utf.dec (toN l) = ((rd l 0).toNat % 16 * 4096 + (rd l 1).toNat % 64 * 64 + (rd l 2).toNat % 64, 3) ∧ 3 ≤ l.length) ∨
    (240 ≤ rd l 0 ∧ rd l 0 ≤ 244 ∧ 128 ≤ rd l 1 ∧ rd l 1 ≤ 191 ∧ 128 ≤ rd l 2 ∧ rd l 2 ≤ 191 ∧ 128 ≤ rd l 3 ∧ rd l 3 ≤ 191 ∧ Utf.dec (toN l) = ((rd l 0).toNat % 8 * 262144 + (rd l 1).toNat % 64 * 4096 + (rd l 2).toNat % 64 * 64 + (rd l 3).toNat % 64, 4) ∧ 4 ≤ l.length) := by
  have hne' : toN l ≠ [] := by intro e; apply hne; cases l with | nil => rfl | cons a t => simp [toN] at e
  have hb' : ∀ x ∈ toN l, x < 256 := by
    intro x hx
    simp only [toN, List.mem_map] at hx
    obtain ⟨y, hy, rfl⟩ := hx
    have := hb y hy; omega
  have hr : ∀ j : Nat, (rd l j).toNat = (toN l).getD j 0 := by
    intro j
    unfold rd toN
    simp only [Int.toNat_natCast, List.getD_eq_getElem?_getD, List.getElem?_map]
    cases l[j]? <;> rfl
  have hg := rd_nonneg l hb
  have hlen : l.length = (toN l).length := by simp [toN]
  have r0 : (rd l 0).toNat = (toN l).getD 0 0 := hr 0
  have r1 : (rd l 1).toNat = (toN l).getD 1 0 := hr 1
  have r2 : (rd l 2).toNat = (toN l).getD 2 0 := hr 2
  have r3 : (rd l 3).toNat = (toN l).getD 3 0 := hr 3
  have g0 := hg 0; have g1 := hg 1; have g2 := hg 2; have g3 := hg 3
  rcases Utf.dec_classes (toN l) hne' hb' with ⟨a, t, e, h1, hd⟩ | ⟨a, b, t, e, h1, h2, h3, h4, hd⟩ | ⟨a, b, c, t, e, h1, h2, h3, h4, h5, hd⟩ | ⟨a, b, c, d, t, e, h1, h2, h3, h4, h5, h6, h7, hd⟩ | hd
  · left
    rw [hd]; rw [e] at r0 hlen; simp at r0 hlen
    exact ⟨by omega, by rw [r0], by omega⟩
  · right; left
    rw [hd]; rw [e] at r0 r1 hlen; simp at r0 r1 hlen
    exact ⟨by omega, by omega, by omega, by omega, by rw [r0, r1], by omega⟩
  · right; right; left
    rw [Utf.fits_iff] at h3
    rw [hd]; rw [e] at r0 r1 r2 hlen; simp at r0 r1 r2 hlen
    exact ⟨by omega, by omega, by omega, by omega, by omega, by omega, by rw [r0, r1, r2], by omega⟩
  · right; right; right
    rw [Utf.fits_iff] at h3
    rw [hd]; rw [e] at r0 r1 r2 r3 hlen; simp at r0 r1 r2 r3 hlen
    exact ⟨by omega, by omega, by omega, by omega, by omega, by omega, by omega, by omega, by rw [r0, r1, r2, r3], by omega⟩
  · exact absurd hd hn
theorem wrap32_id (x : Int) (h0 : -2147483648 ≤ x) (h1 : x < 2147483648) : wrap32 x = x := by unfold wrap32; omega
theorem one_eq (k : Nat) (l : List Int) (hne : l ≠ []) (hb : ∀ x ∈ l, 0 ≤ x ∧ x < 256) : manteletref04_one.f (k + 12) l = some (((Utf.dec (toN l)).1 : Int), ((Utf.dec (toN l)).2 : Int)) := by
  have hlen : 0 < l.length := List.length_pos_iff.2 hne
  have hg := rd_nonneg l hb
  obtain ⟨s1, s2, s3⟩ := gv_spec l hne hb
  unfold manteletref04_one.f
  rw [if_pos (by omega), show k + 12 = (k + 10) + 2 from rfl, Size_eq]
  simp only [Option.bind_some]
  by_cases h0 : szN (rd l 0) = 0
  · rw [if_pos h0]
    obtain ⟨hd, _⟩ := s1 h0
    rw [hd]
    simp [manteletref04_one.j0]
  rw [if_neg h0, show k + 10 + 2 = (k + 4) + 8 from rfl, good_eq _ l hlen hg]
  simp only [Option.bind_some]
  by_cases h1 : gv l < szN (rd l 0)
  · obtain ⟨hd, _⟩ := s2 h0 h1
    rw [hd]
    simp [manteletref04_one.j0, h1]
  obtain ⟨hw, _, hn⟩ := s3 h0 h1
  rw [show k + 4 + 8 = k + 7 + 5 from rfl]
  simp only [manteletref04_one.j0, h1, decide_false, Bool.false_eq_true, if_false]
  rw [if_pos (show (0 : Int) < (l.length : Int) by omega)]
  rcases dec_val l hne hb h0 hn with ⟨a1, hd, hl⟩ | ⟨a1, a2, b1, b2, hd, hl⟩ | ⟨a1, a2, b1, b2, c1, c2, hd, hl⟩ | ⟨a1, a2, b1, b2, c1, c2, d1, d2, hd, hl⟩
  · have g0 := hg 0
    have hs : szN (rd l 0) = 1 := by rw [hd] at hw; simpa using hw.symm
    rw [hs, hd]
    simp only [manteletref04_one.j1, manteletref04_one.j2, manteletref04_one.j3]
    rw [if_neg (by omega), if_neg (by omega), if_neg (by omega), one_l0 _ _ _ _ _ (by omega) (by omega) (by omega), if_neg (by omega), wrap32_id _ (by omega) (by omega)]
    simp only [Option.some.injEq, Prod.mk.injEq]
    omega
  · have hs : szN (rd l 0) = 2 := by rw [hd] at hw; simpa using hw.symm
    rw [hs, hd]
    simp only [manteletref04_one.j1, manteletref04_one.j2, manteletref04_one.j3]
    rw [if_pos trivial, if_neg (by omega), if_neg (by omega), one_l0 _ _ _ _ _ (by omega) (by omega) (by omega), if_pos (by omega), one_l0 _ _ _ _ _ (by omega) (by omega) (by omega), if_neg (by omega)]
    simp only [Option.some.injEq, Prod.mk.injEq]
    unfold wrap32
    omega
  · have hs : szN (rd l 0) = 3 := by rw [hd] at hw; simpa using hw.symm
    rw [hs, hd]
    simp only [manteletref04_one.j1, manteletref04_one.j2, manteletref04_one.j3]
    rw [if_neg (by omega), if_pos trivial, if_neg (by omega), one_l0 _ _ _ _ _ (by omega) (by omega) (by omega), if_pos (by omega), one_l0 _ _ _ _ _ (by omega) (by omega) (by omega), if_pos (by omega), one_l0 _ _ _ _ _ (by omega) (by omega) (by omega), if_neg (by omega)]
    have e1 : wrap32 (wrap32 (rd l 0) - 224) = rd l 0 - 224 := by unfold wrap32; omega
    have e2 : wrap32 (wrap32 (wrap32 ((rd l 0 - 224) * 64) + wrap32 (rd l 1)) - 128) = (rd l 0 - 224) * 64 + rd l 1 - 128 := by unfold wrap32; omega
    rw [e1, e2]
    simp only [Option.some.injEq, Prod.mk.injEq]
    rw [show (1 : Int) + 1 = 2 from rfl]
    unfold wrap32
    omega
  · have hs : szN (rd l 0) = 4 := by rw [hd] at hw; simpa using hw.symm
    rw [hs, hd]
    simp only [manteletref04_one.j1, manteletref04_one.j2, manteletref04_one.j3]
    rw [if_neg (by omega), if_neg (by omega), if_pos trivial, one_l0 _ _ _ _ _ (by omega) (by omega) (by omega), if_pos (by omega), one_l0 _ _ _ _ _ (by omega) (by omega) (by omega), if_pos (by omega), one_l0 _ _ _ _ _ (by omega) (by omega) (by omega), if_pos (by omega), one_l0 _ _ _ _ _ (by omega) (by omega) (by omega), if_neg (by omega)]
    have e1 : wrap32 (wrap32 (rd l 0) - 240) = rd l 0 - 240 := by unfold wrap32; omega
    have e2 : wrap32 (wrap32 (wrap32 ((rd l 0 - 240) * 64) + wrap32 (rd l 1)) - 128) = (rd l 0 - 240) * 64 + rd l 1 - 128 := by unfold wrap32; omega
    rw [show (1 : Int) + 1 = 2 from rfl, show (2 : Int) + 1 = 3 from rfl]
    rw [e1, e2]
    have e3 : wrap32 (wrap32 (wrap32 (((rd l 0 - 240) * 64 + rd l 1 - 128) * 64) + wrap32 (rd l 2)) - 128) = ((rd l 0 - 240) * 64 + rd l 1 - 128) * 64 + rd l 2 - 128 := by unfold wrap32; omega
    rw [e3]
    simp only [Option.some.injEq, Prod.mk.injEq]
    unfold wrap32
    omega
def byt (l : List Int) : Bool := l.all fun x => decide (0 ≤ x) && decide (x < 256)
theorem toN_str {l : List Int} (hb : ∀ x ∈ l, 0 ≤ x ∧ x < 256) : Utf.nats (strOfNums l) = toN l := by
  rw [nats_str]
  unfold toN
  apply List.map_congr_left
  intro x hx
  have := hb x hx; omega
theorem toN_drop (l : List Int) (k : Nat) : toN (l.drop k) = (toN l).drop k := by simp [toN, List.map_drop]
theorem byt_drop {l : List Int} (hb : ∀ x ∈ l, 0 ≤ x ∧ x < 256) (k : Nat) : ∀ x ∈ l.drop k, 0 ≤ x ∧ x < 256 := fun x hx => hb x (List.mem_of_mem_drop hx)
theorem All_l0 (l : List Int) (hb : ∀ x ∈ l, 0 ≤ x ∧ x < 256) (hl : l.length < 35184372088832) (d : Nat) : ∀ (k pos : Nat) (acc : List Int), pos ≤ l.length → l.length - pos ≤ d → acc.length ≤ pos → d + 13 ≤ k →
    manteletref04_All.l0 k l acc (pos : Int) = some (acc ++ (Utf.all ((toN l).drop pos)).map fun n : Nat => (n : Int)) := by
  have hln : (toN l).length = l.length := by simp [toN]
  induction d with
  | zero =>
    intro k pos acc h1 h2 h3 h4
    obtain ⟨k, rfl⟩ : ∃ m, k = m + 1 := ⟨k - 1, by omega⟩
    rw [manteletref04_All.l0, if_neg (by omega), List.drop_of_length_le (by omega), Utf.all_nil]
    simp
  | succ d ih =>
    intro k pos acc h1 h2 h3 h4
    obtain ⟨k, rfl⟩ : ∃ m, k = m + 1 := ⟨k - 1, by omega⟩
    by_cases hp : pos < l.length
    · have hne : l.drop pos ≠ [] := by intro e; have := congrArg List.length e; simp at this; omega
      have hne' : (toN l).drop pos ≠ [] := by intro e; have := congrArg List.length e; simp at this; omega
      have hd := Utf.dec_le _ hne'
      have hd1 := Utf.dec_pos ((toN l).drop pos)
      rw [List.length_drop, hln] at hd
      rw [manteletref04_All.l0, if_pos (by omega), if_pos (by omega), if_pos (by omega), Int.toNat_natCast]
      obtain ⟨m, rfl⟩ : ∃ m, k = m + 12 := ⟨k - 12, by omega⟩
      rw [one_eq _ _ hne (byt_drop hb pos), toN_drop]
      simp only [Option.bind_some]
      rw [if_pos (by omega), show wrap64 ((pos : Int) + ((Utf.dec ((toN l).drop pos)).2 : Int)) = ((pos + (Utf.dec ((toN l).drop pos)).2 : Nat) : Int) by unfold wrap64; omega]
      rw [ih (m + 12) (pos + (Utf.dec ((toN l).drop pos)).2) _ (by omega) (by omega) (by simp; omega) (by omega)]
      conv => rhs; rw [Utf.all_ne _ hne', List.drop_drop]
      simp
    · rw [manteletref04_All.l0, if_neg (by omega), List.drop_of_length_le (by omega), Utf.all_nil]
      simp
theorem All_eq (l : List Int) (hb : ∀ x ∈ l, 0 ≤ x ∧ x < 256) (hl : l.length < 35184372088832) (k : Nat) (hk : l.length + 13 ≤ k) : manteletref04_All.f k l = some (Utf.runesZ (strOfNums l)) := by
  have h := All_l0 l hb hl l.length k 0 [] (by omega) (by omega) (by simp) hk
  simp only [List.nil_append, List.drop_zero] at h
  unfold manteletref04_All.f
  rw [show ((0 : Nat) : Int) = 0 from rfl] at h
  rw [h]
  unfold Utf.runesZ Utf.runesFrom
  rw [List.drop_zero, toN_str hb]
end Go.Proofs.Ythpemcchgebecaa.K

namespace Go.Proofs.Ythpemcchgebecaa.K
open Go.RowKit Go.Proofs.YthpemcchgebecaaW.PrintWords Go.Proofs.YthpemcchgebecaaW.PrintLast Go.Proofs.YthpemcchgebecaaW.PrintMore Go.Proofs.Ythpemcchgebecaa Go.Proofs.Ythpemcchgebecaa.PRf04
set_option linter.unusedVariables false
set_option linter.unusedSimpArgs false
theorem wf_u8 {l : List Int} (h : ∀ x ∈ l, (Lit.int .u8 x).wf = true) : ∀ x ∈ l, 0 ≤ x ∧ x < 256 := by
  intro x hx
  have := h x hx
  simp only [Lit.wf, Bool.and_eq_true, decide_eq_true_eq] at this
  exact ⟨this.1, Int.lt_of_le_of_lt this.2 (by decide)⟩
/-- Runes of bytes, over the numbers. -/
theorem runes_toN {l : List Int} (hb : ∀ x ∈ l, 0 ≤ x ∧ x < 256) : Utf.runesZ (strOfNums l) = (Utf.all (toN l)).map fun n : Nat => (n : Int) := by
  unfold Utf.runesZ Utf.runesFrom
  rw [List.drop_zero, toN_str hb]
theorem feed_toN {l : List Int} (hb : ∀ x ∈ l, 0 ≤ x ∧ x < 256) : utf_Feed.r l = ((Utf.feed (toN l)).1.map fun n : Nat => (n : Int), l.drop (l.length - (Utf.feed (toN l)).2.length)) := by
  unfold utf_Feed.r Utf.fedFrom
  rw [List.drop_zero, toN_str hb]
theorem toN_length (a : List Int) : (toN a).length = a.length := by simp [toN]
theorem all_ascii (y : List Nat) (hy : ∀ b ∈ y, b < 128) : Utf.all y = y := by
  induction y with
  | nil => exact Utf.all_nil
  | cons a t ih =>
    have ha := hy a (by simp)
    rw [Utf.all_ne _ (by simp), show Utf.dec (a :: t) = (a, 1) by simp [Utf.dec, ha]]
    simp [ih (fun b hb => hy b (by simp [hb]))]
end Go.Proofs.Ythpemcchgebecaa.K

namespace Go.Proofs.Ythpemcchgebecaa.K
open Go.RowKit Go.Proofs.YthpemcchgebecaaW.PrintWords Go.Proofs.YthpemcchgebecaaW.PrintLast Go.Proofs.YthpemcchgebecaaW.PrintMore Go.Proofs.Ythpemcchgebecaa
attribute [local go_sem] max2_int min2_int max_two min_two max_three min_three max_four min_four
set_option linter.unusedVariables false
set_option linter.unusedSimpArgs false
open Go.Proofs.Ythpemcchgebecaa.PFold Go.Proofs.Ythpemcchgebecaa.PWd Go.Proofs.Ythpemcchgebecaa.PTk Go.Proofs.Ythpemcchgebecaa.PRf04
theorem End_eq (w : List Int) (m lg : Bool) : words_End.f w m lg = some (wOuts w lg) := by
  unfold words_End.f words_State_word.f wOuts
  by_cases h : 0 < w.length
  · rw [if_pos (by omega)]
    cases lg <;> simp [h]
  · rw [if_neg (by omega)]
    simp [h]
theorem Feed_of (l : List Int) (m lg : Bool) (r : List Int) (h1 : l.length ≤ 1000000) (h2 : r.length ≤ 100000000) : words_Feed.f l m lg r = some (r.foldl wStep ([], l, m, lg)) := if_pos ⟨h1, h2⟩
theorem outs_len (r : List Int) : ∀ s : WS, (r.foldl wStep s).1.length ≤ s.1.length + r.length := by
  induction r with
  | nil => intro s; simp
  | cons c r ih =>
    intro s
    rw [List.foldl_cons]
    have h := ih (wStep s c)
    have h2 : (wStep s c).1.length ≤ s.1.length + 1 := by
      unfold wStep
      split
      · simp
      · split
        · simp
        · have := wOuts_le s.2.1 s.2.2.2; simp; omega
    simp; omega
theorem All_of (l : List Int) (h : l.length ≤ 1000000) : words_All.f l = some (wAll l) := by
  unfold words_All.f
  rw [Feed_of _ _ _ _ (by simp) (by omega)]
  simp only [Option.bind_some, End_eq]
  have h1 := outs_len l ([], [], false, false)
  have h2 := wOuts_le (l.foldl wStep ([], [], false, false)).2.1 (l.foldl wStep ([], [], false, false)).2.2.2
  simp only [List.length_nil, Nat.zero_add] at h1
  rw [if_pos (by omega)]
  rfl
def isL (c : Int) : Bool := isLetter c
def wCount (s : WS) : Nat := s.1.length + (if 0 < s.2.1.length then 1 else 0)
theorem count_step (s : WS) (c : Int) : wCount (wStep s c) ≤ wCount s + (if isLetter c = true then 1 else 0) := by
  unfold wStep wCount
  by_cases h1 : isLetter c = true
  · rw [if_pos h1, if_pos h1]
    show s.1.length + (if 0 < (wLet _ _ _ _).1.length then 1 else 0) ≤ _
    split <;> split <;> omega
  · rw [if_neg h1, if_neg h1]
    split
    · exact Nat.le_refl _
    · show (s.1 ++ wOuts s.2.1 s.2.2.2).length + (if 0 < ([] : List Int).length then 1 else 0) ≤ _
      unfold wOuts
      by_cases h : 0 < s.2.1.length
      · rw [if_pos h]; split <;> simp
      · rw [if_neg h, if_neg (fun k => h k.1)]; simp
theorem count_fold (r : List Int) : ∀ s : WS, wCount (r.foldl wStep s) ≤ wCount s + r.countP isLetter := by
  induction r with
  | nil => intro s; simp
  | cons c r ih =>
    intro s
    rw [List.foldl_cons, List.countP_cons]
    have h1 := ih (wStep s c)
    have h2 := count_step s c
    omega
theorem count_end (s : WS) : (wEnd s).length ≤ wCount s := by
  unfold wEnd wCount wOuts
  by_cases h : 0 < s.2.1.length
  · rw [if_pos h]; split <;> simp
  · rw [if_neg h, if_neg (fun k => h k.1)]; simp
theorem all_count (l : List Int) : (wAll l).length ≤ l.countP isLetter := by
  have h1 := count_end (l.foldl wStep ([], [], false, false))
  have h2 := count_fold l ([], [], false, false)
  have h3 : wCount ([], [], false, false) = 0 := rfl
  unfold wAll
  omega
def nLet (x : List Nat) : Nat := ((Utf.all x).map fun n : Nat => (n : Int)).countP isLetter
theorem utfAll_of (l : List Int) (hb : ∀ x ∈ l, 0 ≤ x ∧ x < 256) (h : l.length ≤ 100000000) : utf_All.f l = some ((Utf.all (toN l)).map fun n : Nat => (n : Int)) := by
  unfold utf_All.f
  rw [if_pos (by omega), runes_toN hb]
theorem all_len (l : List Int) : ((Utf.all (toN l)).map fun n : Nat => (n : Int)).length ≤ l.length := by
  rw [List.length_map, ← toN_length l]
  exact Utf.all_length _
theorem tokenAll_of (l : List Int) (hb : ∀ x ∈ l, 0 ≤ x ∧ x < 256) (h : l.length ≤ 1000000) : token_All.f l = some (wAll ((Utf.all (toN l)).map fun n : Nat => (n : Int))) := by
  unfold token_All.f
  rw [utfAll_of l hb (by omega)]
  simp only [Option.bind_some]
  rw [All_of _ (by have := all_len l; omega)]
  rfl
theorem same_run (a : List ByteArray) (hl : a.length < 100000000) : ∀ (d i k : Nat), d + i = a.length → manteletref06_Same.l0 (k + 1 + d) a a (i : Int) = some true := by
  intro d
  induction d with
  | zero => intro i k hi; rw [manteletref06_Same.l0, if_neg (by omega)]
  | succ d ih =>
    intro i k hi
    rw [show k + 1 + (d + 1) = (k + 1 + d) + 1 by omega, manteletref06_Same.l0, if_pos (by omega), if_pos (by omega), if_pos (by omega), if_pos rfl, show wrap64 ((i : Int) + 1) = ((i + 1 : Nat) : Int) by unfold wrap64; omega]
    exact ih (i + 1) k (by omega)
theorem same_eq (a : List ByteArray) (hl : a.length < 100000000) (k : Nat) (hk : a.length < k) : manteletref06_Same.f k a a = some true := by
  unfold manteletref06_Same.f
  rw [if_pos rfl]
  have := same_run a hl a.length 0 (k - 1 - a.length) (by omega)
  rw [show k - 1 - a.length + 1 + a.length = k by omega] at this
  exact this
theorem wAll_len (l : List Int) : (wAll l).length ≤ l.length := Nat.le_trans (all_count l) List.countP_le_length
end Go.Proofs.Ythpemcchgebecaa.K

namespace Go.Proofs.Ythpemcchgebecaa.K
open Go.RowKit Go.Proofs.YthpemcchgebecaaW.PrintWords Go.Proofs.YthpemcchgebecaaW.PrintLast Go.Proofs.YthpemcchgebecaaW.PrintMore Go.Proofs.Ythpemcchgebecaa
attribute [local go_sem] max2_int min2_int max_two min_two max_three min_three max_four min_four
set_option linter.unusedVariables false
set_option linter.unusedSimpArgs false
open Go.Proofs.Ythpemcchgebecaa.PFold Go.Proofs.Ythpemcchgebecaa.PWd Go.Proofs.Ythpemcchgebecaa.PTk Go.Proofs.Ythpemcchgebecaa.PRf04
def runesI (x : List Nat) : List Int := x.map fun n : Nat => (n : Int)
theorem tokenFeed_of (p : List Int) (w : List Int) (m lg : Bool) (b : List Int) (hb : ∀ x ∈ p ++ b, 0 ≤ x ∧ x < 256) (hl : p.length + b.length ≤ 1000000) (hw : w.length ≤ 1000000) :
    token_Feed.f p w m lg b = some (((runesI (Utf.feed (toN (p ++ b))).1).foldl wStep ([], w, m, lg)).1, (p ++ b).drop ((p ++ b).length - (Utf.feed (toN (p ++ b))).2.length), ((runesI (Utf.feed (toN (p ++ b))).1).foldl wStep ([], w, m, lg)).2) := by
  have hlen : (runesI (Utf.feed (toN (p ++ b))).1).length ≤ 100000000 := by
    have h1 := congrArg List.length (Utf.all_feed (toN (p ++ b)))
    have h2 := Utf.all_length (toN (p ++ b))
    rw [List.length_append] at h1
    rw [toN_length, List.length_append] at h2
    unfold runesI
    rw [List.length_map]
    omega
  unfold token_Feed.f utf_Feed.f
  rw [if_pos (by omega), feed_toN hb]
  simp only [Option.bind_some]
  unfold runesI at hlen ⊢
  rw [Feed_of _ _ _ _ hw hlen]
  rfl
theorem tokenEnd_of (p : List Int) (w : List Int) (m lg : Bool) (hb : ∀ x ∈ p, 0 ≤ x ∧ x < 256) (hl : p.length ≤ 1000000) (hw : w.length ≤ 1000000) :
    token_End.f p w m lg = some (wEnd ((runesI (Utf.all (toN p))).foldl wStep ([], w, m, lg))) := by
  have hlen := all_len p
  unfold token_End.f utf_End.f
  rw [utfAll_of p hb (by omega)]
  simp only [Option.bind_some]
  unfold runesI
  rw [Feed_of _ _ _ _ hw (by omega)]
  simp only [Option.bind_some, End_eq]
  generalize hs : ((Utf.all (toN p)).map fun n : Nat => (n : Int)).foldl wStep ([], w, m, lg) = s
  have h1 := outs_len ((Utf.all (toN p)).map fun n : Nat => (n : Int)) ([], w, m, lg)
  rw [hs] at h1
  have h2 := wOuts_le s.2.1 s.2.2.2
  simp only [List.length_nil] at h1
  rw [if_pos (by omega)]
  rfl
theorem shown07 (k : Nat) (hk : 2 < k) : manteletlaw07_shown.f k = some true := by
  have f1 : Utf.feed [68, 111, 110, 226] = ([68, 111, 110], [226]) := by
    rw [Utf.feed_step _ (by simp) (by rfl), Utf.feed_step _ (by decide) (by rfl), Utf.feed_step _ (by decide) (by rfl), Utf.feed_pend _ (by rfl)]
    rfl
  have f2 : Utf.feed [226, 128] = ([], [226, 128]) := Utf.feed_pend _ (by rfl)
  have f3 : Utf.feed [226, 128, 153, 116] = ([8217, 116], []) := by
    rw [Utf.feed_step _ (by simp) (by rfl), Utf.feed_step _ (by decide) (by rfl)]
    have : Utf.feed (List.drop (Utf.dec (List.drop (Utf.dec [226, 128, 153, 116]).2 [226, 128, 153, 116])).2 (List.drop (Utf.dec [226, 128, 153, 116]).2 [226, 128, 153, 116])) = ([], []) := Utf.feed_nil
    rw [this]
    rfl
  unfold manteletlaw07_shown.f
  simp only [Option.bind_some]
  have t1 : ([68, 111, 110, 226, 128, 153, 116] : List Int).take 4 = [68, 111, 110, 226] := rfl
  have t2 : (([68, 111, 110, 226, 128, 153, 116] : List Int).take 5).drop 4 = [128] := rfl
  have t3 : ([68, 111, 110, 226, 128, 153, 116] : List Int).drop 5 = [153, 116] := rfl
  have g1 : token_Feed.f [] [] false false [68, 111, 110, 226] = some ([], [226], [100, 111, 110], false, false) := by
    rw [tokenFeed_of _ _ _ _ _ (by decide) (by decide) (by decide), show toN ([] ++ [68, 111, 110, 226]) = [68, 111, 110, 226] from rfl, f1]
    kernel_rfl
  have g2 : token_Feed.f [226] [100, 111, 110] false false [128] = some ([], [226, 128], [100, 111, 110], false, false) := by
    rw [tokenFeed_of _ _ _ _ _ (by decide) (by decide) (by decide), show toN ([226] ++ [128]) = [226, 128] from rfl, f2]
    kernel_rfl
  have g3 : token_Feed.f [226, 128] [100, 111, 110] false false [153, 116] = some ([], [], [100, 111, 110, 39, 116], false, false) := by
    rw [tokenFeed_of _ _ _ _ _ (by decide) (by decide) (by decide), show toN ([226, 128] ++ [153, 116]) = [226, 128, 153, 116] from rfl, f3]
    kernel_rfl
  have g4 : token_End.f [] [100, 111, 110, 39, 116] false false = some [⟨#[100, 111, 110, 39, 116]⟩] := by
    rw [tokenEnd_of _ _ _ _ (by decide) (by decide) (by decide), show toN [] = [] from rfl, Utf.all_nil]
    kernel_rfl
  rw [t1, t2, t3, g1, if_pos (by decide)]
  simp only [Option.bind_some]
  rw [if_pos (by decide), if_pos (by decide), g2]
  simp only [Option.bind_some]
  rw [g3]
  simp only [Option.bind_some]
  rw [g4]
  simp only [Option.bind_some]
  rw [same_eq _ (by decide) k (by simpa using by omega)]
  rfl
end Go.Proofs.Ythpemcchgebecaa.K

namespace Go.Proofs.Ythpemcchgebecaa.Pure
open Go.RowKit Go.Proofs.YthpemcchgebecaaW.PrintWords Go.Proofs.YthpemcchgebecaaW.PrintLast Go.Proofs.Ythpemcchgebecaa.PTokenAll Go.Proofs.Ythpemcchgebecaa.PFold Go.Proofs.Ythpemcchgebecaa.PWd Go.Proofs.Ythpemcchgebecaa.PTk Go.Proofs.Ythpemcchgebecaa.PRf04 Go.Proofs.Ythpemcchgebecaa.K Go.Proofs.Ythpemcchgebecaa
theorem refAll_of (l : List Int) (hb : ∀ x ∈ l, 0 ≤ x ∧ x < 256) (h : l.length ≤ 100000) (K : Nat) (hK : 4 * l.length + 40 ≤ K) : manteletref07_All.f K l = some (wAll ((Utf.all (toN l)).map fun n : Nat => (n : Int))) := by
  unfold manteletref07_All.f
  have hlen := all_len l
  rw [All_eq l hb (by omega) K (by omega), runes_toN hb]
  simp only [Option.bind_some]
  rw [ref_All_eq _ (by omega) K (by omega)]
  rfl
theorem TokenAll : manteletlaw07_TokenAll.Pure := by
  intro l0 _ _ hw
  have hb := wf_u8 hw
  refine ⟨4 * l0.length + 5100, ?_⟩
  unfold manteletlaw07_TokenAll.f
  rw [shown07 _ (by omega)]
  simp only [Option.bind_some]
  by_cases h : (l0.length : Int) > 5000
  · rw [if_pos h]
  · rw [if_neg h, if_pos trivial, tokenAll_of l0 hb (by omega), refAll_of l0 hb (by omega) _ (by omega)]
    simp only [Option.bind_some]
    have h1 := wAll_len ((Utf.all (toN l0)).map fun n : Nat => (n : Int))
    have h2 := all_len l0
    rw [same_eq _ (by omega) _ (by omega)]
    rfl
end Go.Proofs.Ythpemcchgebecaa.Pure

namespace Go.Proofs.Ythpemcchgebecaa.tokenAll
open Go.ChangeShapes Go.WideShapes Go.ChangeAt Go.RowKit
open Go.ChangeMaps (open_string shut_string)
set_option linter.unusedVariables false
theorem own : ownKnob Try.prog.godebug = none := by kernel_rfl
theorem laidOut : laidOutB Try.prog = true := by kernel_rfl
def IsRow (k : IntKind) (w : World) (a : Option Addr) (len cap : Nat) (zs : List Int) : Prop :=
  (a = none ∧ len = 0 ∧ cap = 0 ∧ zs = []) ∨
  ∃ x, a = some x ∧ len ≤ cap ∧ cap ≤ maxLen ∧ zs.length = cap ∧ (∀ i, i < zs.length → w.cell? (x.add i) = some (.int k (zs.getD i 0))) ∧ ∀ n ∈ zs, (Lit.int k n).wf = true
set_option maxRecDepth 100000 in
theorem lifted (os : Os) (started : os.Started) (H : Type) (enc : TypeId × Value → H) :
    ReturnsInHanded {} Try.checked os 8 .any (Rows.tokenAllSpec.pre6 enc Try.prog Try.f8 Rows.tokenAllRow.domain false) (Rows.tokenAllSpec.post enc Try.prog Try.f8 false true false false) := by
  refine returnsInHanded_of_change_sized (C := Try.checked) own started (by kernel_rfl) Try.func8
    (ChangeSpec.witness6 (enc := enc) (C := Try.checked) false ⟨#[], #[.slice none 0 0], []⟩ 8 (by kernel_rfl) (by kernel_rfl) (by kernel_rfl) (by kernel_rfl)) ?_
  intro W base args ds gs before hval0 hW hcnd hsz0 _
  have hsz : (DataW.weightsEach Try.prog (Try.f8.params.toList ++ Rows.tokenAllSpec.plain.varTypes Try.prog) (ds ++ gs)).all (· ≤ reachBytes) = true := hsz0
  have hval : ∀ (j : Nat) t v, Try.f8.params[j]? = some t → args[j]? = some v → Value.okWide Try.prog W .any base t v := hval0
  have hW' := hW
  obtain ⟨p, q, hA0, hV, rfl, hfz, hnd⟩ := hW
  have hA : DataW.TrodAll enc Try.prog W 0 (fun _ => true) true Try.f8.params.toList args.toList ds p := hA0
  rw [Try.params8] at hA hval hsz
  obtain ⟨v0, vs0, d0, ds0, p0, q0, hargs, rfl, rfl, h0, r0⟩ := trodAll_cons hA
  obtain ⟨rfl, rfl, rfl⟩ := trodAll_nil r0
  obtain rfl : args = #[v0] := by cases args; simp_all
  obtain ⟨rfl, rfl⟩ := trodVars_none hV
  obtain ⟨a0, len0, cap0, rfl⟩ := okWide_slice Try.underlying31 (hval 0 31 v0 rfl rfl)
  have k0 := h0
  have lt0 : ∀ x ∈ p0, x.block < W.heap.size := by obtain ⟨m, hm⟩ := k0; exact DataW.trod_lt m _ _ _ hm
  obtain ⟨z0, w0⟩ : ∃ zs, IsRow .u8 W a0 len0 cap0 zs := by
    obtain ⟨fuel, hf⟩ := h0
    rcases open_ints Try.underlying31 Try.underlying5 (by kernel_rfl) hf with ⟨hcs, _⟩ | ⟨x, l, c, zs, hcs, _, hl, hm, hz, _, hcell, hwz⟩
    · simp [Value.cells] at hcs
      obtain ⟨rfl, rfl, rfl⟩ := hcs
      exact ⟨[], .inl ⟨rfl, rfl, rfl, rfl⟩⟩
    · simp [Value.cells] at hcs
      obtain ⟨rfl, rfl, rfl⟩ := hcs
      exact ⟨zs, .inr ⟨_, rfl, hl, hm, by simpa using hz, hcell, hwz⟩⟩
  have y0 : len0 * 1 ≤ 140737488351232 := Go.Proofs.YthpemcchgebecaaW.PrintWords.sized_ints hsz (j := 0) (t := 31) rfl rfl Try.underlying31 Try.underlying5 (by kernel_rfl) (by kernel_rfl) h0
  clear hA0 hval0 hsz0 hsz
  refine (PTokenAll.manteletlaw07_TokenAll.walk Pure.TokenAll a0 len0 cap0 z0 W w0 y0).mono fun e W' ⟨he, bel⟩ => ?_
  subst he
  exact ⟨_, rfl, _, _, _, [], _, [], hW', trodAll_mk1 (shut_bool Try.underlying4 _), (trodAll_cons_mk (Below.trod laidOut (by kernel_rfl) (of_decide_eq_true (by kernel_rfl)) k0 bel lt0) trodAll_mk0), rfl, bel.frame _, fun h => by cases h⟩
theorem over : Rows.tokenAllRow.holds Try.pinned (OpenSpec.ofChange Rows.tokenAllSpec) :=
  OpenClaim.holds_of_wide 8 Try.f8 rfl rfl rfl rfl rfl rfl rfl ⟨rfl, rfl, rfl, rfl, rfl⟩ rfl rfl rfl rfl rfl (by kernel_rfl) Try.func8 (by kernel_rfl)
    (of_decide_eq_true (by kernel_rfl)) (by unfold Func.isWrapper; first | (rw [if_pos (by decide +kernel)]; kernel_rfl) | (rw [if_neg (by decide +kernel)]; exact ⟨rfl, rfl⟩))
    (fun os started H enc _ => lifted os started H enc)
theorem proved : Rows.TokenAllSaid := over
#print axioms proved
end Go.Proofs.Ythpemcchgebecaa.tokenAll
namespace Go.Proofs.Ythpemcchgebecaa
/-- The row, under a short name, for the claim. -/
theorem tokenAll_holds : Rows.TokenAllSaid := tokenAll.proved
end Go.Proofs.Ythpemcchgebecaa

