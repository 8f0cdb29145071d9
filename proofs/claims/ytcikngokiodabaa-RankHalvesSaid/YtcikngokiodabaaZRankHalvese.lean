/- RankHalves. (The texts that the proof is made of, one behind the other: part 5 of 5.) -/
import Derived.Test.YtcikngokiodabaaProg
import Derived.Below
import Derived.Deep.Draws
import Derived.Deep.AppendLies
import Derived.Maps.AppendAt
import Derived.OwnWalk
import Derived.Laws.BytesArg
import Derived.Laws.MakeOwn
import Derived.Laws.OwnMore
import Derived.Deep.OwnRows
import Derived.Tactics
import Derived.Lib.ConvBytes
import Derived.Laws.Slices
import Derived.WalkKit
import Derived.KernelRfl
import Derived.RowKit3
import Derived.Deep.LoopGhost
import Derived.Deep.QuietTactic
import Derived.BigQuiet
import Derived.WideLaws
import Derived.Deep.DeepCutAuto
import Derived.Deep.CutBlock
import Derived.Deep.RegionHeld3
import Derived.Laws.Rows
import Derived.Lib.AppendStr
import Derived.ArgAppend
import Derived.Laws.IdiomCopy
import Derived.OrdersHeld
import Derived.Laws.BitsLemmas
import Derived.RowKit
import Derived.Lib.OthersKept
import Derived.WalkSmall
import Derived.Deep.RegionLaw
import Derived.BigRegion
import Derived.Test.YtcikngokiodabaaRows
import Derived.ProofKit
import Derived.OpenShut
import Derived.ShutString
import Derived.ChangeOld
import Derived.SizedLaws
import Derived.Test.YtcikngokiodabaaZRankHalvesa
import Derived.Test.YtcikngokiodabaaZRankHalvesb
import Derived.Test.YtcikngokiodabaaZRankHalvesc
import Derived.Test.YtcikngokiodabaaZRankHalvesd
namespace Go.Proofs.Ytcikngokiodabaa.PRankHalves
open Go.RowKit Go.Proofs.YtcikngokiodabaaW.PrintWords Go.Proofs.YtcikngokiodabaaW.PrintLast Go.Proofs.YtcikngokiodabaaW.PrintMore Go.Proofs.Ytcikngokiodabaa.K Go.Proofs.Ytcikngokiodabaa.PR13 Go.Proofs.Ytcikngokiodabaa.PSh13
attribute [local go_sem] max2_int min2_int max_two min_two max_three min_three max_four min_four   -- for this text's walks alone
set_option linter.unusedVariables false
set_option linter.unusedSimpArgs false

def manteletlaw13_RankHalves.f (k : Nat) (a0 : Int) (a1 : Int) : Option (Bool) := (manteletlaw13_shown.f k).bind fun t101 => (if t101 = true then (if (IntKind.u64.wrap (a0)) = 0 then (if (IntKind.u64.wrap (a0)) > (IntKind.u64.wrap (a1)) then ((rank_Half.f k (IntKind.u64.wrap (a0))).bind fun t102 => (if ((t102 == 0) == ((IntKind.u64.wrap (a0)) == 0)) = true then ((rank_Half.f k (IntKind.u64.wrap (a0))).bind fun t103 => (some (decide (t103 ≤ 32)))) else (some false))) else ((rank_Half.f k (IntKind.u64.wrap (a0))).bind fun t104 => ((rank_Half.f k (IntKind.u64.wrap (a1))).bind fun t105 => (if t104 ≤ t105 then ((rank_Half.f k (IntKind.u64.wrap (a0))).bind fun t106 => (if ((t106 == 0) == ((IntKind.u64.wrap (a0)) == 0)) = true then ((rank_Half.f k (IntKind.u64.wrap (a0))).bind fun t107 => (some (decide (t107 ≤ 32)))) else (some false))) else (some false))))) else ((rank_Half.f k (IntKind.u64.wrap (2 * (IntKind.u64.wrap (a0))))).bind fun t108 => ((rank_Half.f k (IntKind.u64.wrap (a0))).bind fun t109 => (if t108 = (wrap64 (t109 + 1)) then ((rank_Half.f k (IntKind.u64.wrap ((IntKind.u64.wrap (2 * (IntKind.u64.wrap (a0)))) + 1))).bind fun t110 => ((rank_Half.f k (IntKind.u64.wrap (2 * (IntKind.u64.wrap (a0))))).bind fun t111 => (if t110 = t111 then (if (IntKind.u64.wrap (a0)) > (IntKind.u64.wrap (a1)) then ((rank_Half.f k (IntKind.u64.wrap (a0))).bind fun t112 => (if ((t112 == 0) == ((IntKind.u64.wrap (a0)) == 0)) = true then ((rank_Half.f k (IntKind.u64.wrap (a0))).bind fun t113 => (some (decide (t113 ≤ 32)))) else (some false))) else ((rank_Half.f k (IntKind.u64.wrap (a0))).bind fun t114 => ((rank_Half.f k (IntKind.u64.wrap (a1))).bind fun t115 => (if t114 ≤ t115 then ((rank_Half.f k (IntKind.u64.wrap (a0))).bind fun t116 => (if ((t116 == 0) == ((IntKind.u64.wrap (a0)) == 0)) = true then ((rank_Half.f k (IntKind.u64.wrap (a0))).bind fun t117 => (some (decide (t117 ≤ 32)))) else (some false))) else (some false))))) else (some false)))) else (some false))))) else (some false))
set_option maxHeartbeats 8000000 in
set_option maxRecDepth 100000 in
theorem manteletlaw13_RankHalves.calls (k : Nat) (a0 : Int) (a1 : Int) (r : Bool) (w : World) (h : manteletlaw13_RankHalves.f k a0 a1 = some r) :
    Calls Try.prog 6 #[.int .u32 a0, .int .u32 a1] w fun e w' => e = .returned (.bool r) ∧ Below w.heap.size w w' := by
  have HB := Aside0.mk (Below.refl w.heap.size w)
  have H : ((manteletlaw13_shown.f k).bind fun t101 => (if t101 = true then (if (IntKind.u64.wrap (a0)) = 0 then (if (IntKind.u64.wrap (a0)) > (IntKind.u64.wrap (a1)) then ((rank_Half.f k (IntKind.u64.wrap (a0))).bind fun t102 => (if ((t102 == 0) == ((IntKind.u64.wrap (a0)) == 0)) = true then ((rank_Half.f k (IntKind.u64.wrap (a0))).bind fun t103 => (some (decide (t103 ≤ 32)))) else (some false))) else ((rank_Half.f k (IntKind.u64.wrap (a0))).bind fun t104 => ((rank_Half.f k (IntKind.u64.wrap (a1))).bind fun t105 => (if t104 ≤ t105 then ((rank_Half.f k (IntKind.u64.wrap (a0))).bind fun t106 => (if ((t106 == 0) == ((IntKind.u64.wrap (a0)) == 0)) = true then ((rank_Half.f k (IntKind.u64.wrap (a0))).bind fun t107 => (some (decide (t107 ≤ 32)))) else (some false))) else (some false))))) else ((rank_Half.f k (IntKind.u64.wrap (2 * (IntKind.u64.wrap (a0))))).bind fun t108 => ((rank_Half.f k (IntKind.u64.wrap (a0))).bind fun t109 => (if t108 = (wrap64 (t109 + 1)) then ((rank_Half.f k (IntKind.u64.wrap ((IntKind.u64.wrap (2 * (IntKind.u64.wrap (a0)))) + 1))).bind fun t110 => ((rank_Half.f k (IntKind.u64.wrap (2 * (IntKind.u64.wrap (a0))))).bind fun t111 => (if t110 = t111 then (if (IntKind.u64.wrap (a0)) > (IntKind.u64.wrap (a1)) then ((rank_Half.f k (IntKind.u64.wrap (a0))).bind fun t112 => (if ((t112 == 0) == ((IntKind.u64.wrap (a0)) == 0)) = true then ((rank_Half.f k (IntKind.u64.wrap (a0))).bind fun t113 => (some (decide (t113 ≤ 32)))) else (some false))) else ((rank_Half.f k (IntKind.u64.wrap (a0))).bind fun t114 => ((rank_Half.f k (IntKind.u64.wrap (a1))).bind fun t115 => (if t114 ≤ t115 then ((rank_Half.f k (IntKind.u64.wrap (a0))).bind fun t116 => (if ((t116 == 0) == ((IntKind.u64.wrap (a0)) == 0)) = true then ((rank_Half.f k (IntKind.u64.wrap (a0))).bind fun t117 => (some (decide (t117 ≤ 32)))) else (some false))) else (some false))))) else (some false)))) else (some false))))) else (some false))) = some r := h
  clear h
  replace H := Option.bind_eq_some_iff.mp H
  obtain ⟨t101, A30, H⟩ := H
  replace H : (if t101 = true then (if (IntKind.u64.wrap (a0)) = 0 then (if (IntKind.u64.wrap (a0)) > (IntKind.u64.wrap (a1)) then ((rank_Half.f k (IntKind.u64.wrap (a0))).bind fun t102 => (if ((t102 == 0) == ((IntKind.u64.wrap (a0)) == 0)) = true then ((rank_Half.f k (IntKind.u64.wrap (a0))).bind fun t103 => (some (decide (t103 ≤ 32)))) else (some false))) else ((rank_Half.f k (IntKind.u64.wrap (a0))).bind fun t104 => ((rank_Half.f k (IntKind.u64.wrap (a1))).bind fun t105 => (if t104 ≤ t105 then ((rank_Half.f k (IntKind.u64.wrap (a0))).bind fun t106 => (if ((t106 == 0) == ((IntKind.u64.wrap (a0)) == 0)) = true then ((rank_Half.f k (IntKind.u64.wrap (a0))).bind fun t107 => (some (decide (t107 ≤ 32)))) else (some false))) else (some false))))) else ((rank_Half.f k (IntKind.u64.wrap (2 * (IntKind.u64.wrap (a0))))).bind fun t108 => ((rank_Half.f k (IntKind.u64.wrap (a0))).bind fun t109 => (if t108 = (wrap64 (t109 + 1)) then ((rank_Half.f k (IntKind.u64.wrap ((IntKind.u64.wrap (2 * (IntKind.u64.wrap (a0)))) + 1))).bind fun t110 => ((rank_Half.f k (IntKind.u64.wrap (2 * (IntKind.u64.wrap (a0))))).bind fun t111 => (if t110 = t111 then (if (IntKind.u64.wrap (a0)) > (IntKind.u64.wrap (a1)) then ((rank_Half.f k (IntKind.u64.wrap (a0))).bind fun t112 => (if ((t112 == 0) == ((IntKind.u64.wrap (a0)) == 0)) = true then ((rank_Half.f k (IntKind.u64.wrap (a0))).bind fun t113 => (some (decide (t113 ≤ 32)))) else (some false))) else ((rank_Half.f k (IntKind.u64.wrap (a0))).bind fun t114 => ((rank_Half.f k (IntKind.u64.wrap (a1))).bind fun t115 => (if t114 ≤ t115 then ((rank_Half.f k (IntKind.u64.wrap (a0))).bind fun t116 => (if ((t116 == 0) == ((IntKind.u64.wrap (a0)) == 0)) = true then ((rank_Half.f k (IntKind.u64.wrap (a0))).bind fun t117 => (some (decide (t117 ≤ 32)))) else (some false))) else (some false))))) else (some false)))) else (some false))))) else (some false)) = some r := H
  have A3 := Aside0.mk A30
  clear A30
  by_cases c4 : t101 = true
  · subst c4
    have H1 : (if (IntKind.u64.wrap (a0)) = 0 then (if (IntKind.u64.wrap (a0)) > (IntKind.u64.wrap (a1)) then ((rank_Half.f k (IntKind.u64.wrap (a0))).bind fun t102 => (if ((t102 == 0) == ((IntKind.u64.wrap (a0)) == 0)) = true then ((rank_Half.f k (IntKind.u64.wrap (a0))).bind fun t103 => (some (decide (t103 ≤ 32)))) else (some false))) else ((rank_Half.f k (IntKind.u64.wrap (a0))).bind fun t104 => ((rank_Half.f k (IntKind.u64.wrap (a1))).bind fun t105 => (if t104 ≤ t105 then ((rank_Half.f k (IntKind.u64.wrap (a0))).bind fun t106 => (if ((t106 == 0) == ((IntKind.u64.wrap (a0)) == 0)) = true then ((rank_Half.f k (IntKind.u64.wrap (a0))).bind fun t107 => (some (decide (t107 ≤ 32)))) else (some false))) else (some false))))) else ((rank_Half.f k (IntKind.u64.wrap (2 * (IntKind.u64.wrap (a0))))).bind fun t108 => ((rank_Half.f k (IntKind.u64.wrap (a0))).bind fun t109 => (if t108 = (wrap64 (t109 + 1)) then ((rank_Half.f k (IntKind.u64.wrap ((IntKind.u64.wrap (2 * (IntKind.u64.wrap (a0)))) + 1))).bind fun t110 => ((rank_Half.f k (IntKind.u64.wrap (2 * (IntKind.u64.wrap (a0))))).bind fun t111 => (if t110 = t111 then (if (IntKind.u64.wrap (a0)) > (IntKind.u64.wrap (a1)) then ((rank_Half.f k (IntKind.u64.wrap (a0))).bind fun t112 => (if ((t112 == 0) == ((IntKind.u64.wrap (a0)) == 0)) = true then ((rank_Half.f k (IntKind.u64.wrap (a0))).bind fun t113 => (some (decide (t113 ≤ 32)))) else (some false))) else ((rank_Half.f k (IntKind.u64.wrap (a0))).bind fun t114 => ((rank_Half.f k (IntKind.u64.wrap (a1))).bind fun t115 => (if t114 ≤ t115 then ((rank_Half.f k (IntKind.u64.wrap (a0))).bind fun t116 => (if ((t116 == 0) == ((IntKind.u64.wrap (a0)) == 0)) = true then ((rank_Half.f k (IntKind.u64.wrap (a0))).bind fun t117 => (some (decide (t117 ≤ 32)))) else (some false))) else (some false))))) else (some false)))) else (some false))))) = some r := by rw [if_pos rfl] at H; exact H
    clear H
    have H := H1
    clear H1
    by_cases c5 : (IntKind.u64.wrap (a0)) = 0
    · rw [if_pos c5] at H
      have c5b0 : ((IntKind.u64.wrap (a0)) == 0) = true := beq_iff_eq.mpr c5
      have c5b1 : ((IntKind.u64.wrap (a0)) != 0) = false := bne_eq_false_iff_eq.mpr c5
      clear c5
      by_cases c6 : (IntKind.u64.wrap (a0)) > (IntKind.u64.wrap (a1))
      · rw [if_pos c6] at H
        have c6b0 : decide ((IntKind.u64.wrap (a1)) < (IntKind.u64.wrap (a0))) = true := decide_eq_true c6
        clear c6
        replace H := Option.bind_eq_some_iff.mp H
        obtain ⟨t102, A70, H⟩ := H
        replace H : (if ((t102 == 0) == ((IntKind.u64.wrap (a0)) == 0)) = true then ((rank_Half.f k (IntKind.u64.wrap (a0))).bind fun t103 => (some (decide (t103 ≤ 32)))) else (some false)) = some r := H
        have A7 := Aside0.mk A70
        clear A70
        (try (have z_same : t102 = t101 := Option.some.inj ((by with_reducible exact A7.out : _ = some t102).symm.trans A3.out); subst z_same))
        by_cases c8 : ((t102 == 0) == ((IntKind.u64.wrap (a0)) == 0)) = true
        · rw [if_pos c8] at H
          have c8b0 : ((t102 == 0) == ((IntKind.u64.wrap (a0)) == 0)) = true := c8
          (try (have c8b1 : decide ((t102 == 0) = ((IntKind.u64.wrap (a0)) == 0)) = true := by simpa using c8))
          (try (have c8b2 : ((t102 == 0) == ((IntKind.u64.wrap (a0)) == 0)) = true := by simpa using c8))
          (first | (have z_fit : (t102 == 0) = true := by (have z := c8b0; rw [c5b0] at z; simpa using z)) | (have z_fit : (t102 == 0) = false := by (have z := c8b0; rw [c5b0] at z; simpa using z)))
          clear c8
          replace H := Option.bind_eq_some_iff.mp H
          obtain ⟨t103, A90, H⟩ := H
          replace H : (some (decide (t103 ≤ 32))) = some r := H
          have A9 := Aside0.mk A90
          clear A90
          (try (have z_same : t103 = t101 := Option.some.inj ((by with_reducible exact A9.out : _ = some t103).symm.trans A3.out); subst z_same))
          (try (have z_same : t103 = t102 := Option.some.inj ((by with_reducible exact A9.out : _ = some t103).symm.trans A7.out); subst z_same))
          obtain rfl := Option.some.inj H
          go_enter Try.func6, Try.ntmps6
          go_wp2_with (first | ((with_reducible refine gate_callee (f := 8) rfl ?_); refine goesL_ (some 8) rfl rfl Try.func8 (by kernel_rfl) rfl #[] rfl (by (try simp only [List.map_toArray, List.map_cons, List.map_nil]); first | done | rfl | (simp only [List.length_drop, List.length_take]; rfl)) ?_; (with_reducible refine (manteletlaw13_shown.calls k  true _ A3.out).mono ?_); rintro e w10 ⟨rfl, hb⟩; refine ⟨_, rfl, ?_⟩; have n0_ := Aside0.mk (below_step (by repeat (first | (with_reducible first | exact HB.out | apply below_alloc | apply pw_below_drewN | apply below_drew1) | exact HB.out)) hb); clear HB; have HB := n0_; clear n0_; (try clear hb); (try clear hb2); (try clear hk); (try clear hi)) | (go_at_call 15; (with_reducible refine (rank_Half.calls k (IntKind.u64.wrap (a0)) t102 _ A7.out).mono ?_); rintro e w' ⟨rfl, ⟨nd, rfl⟩⟩) | (go_at_call 15; (with_reducible refine (rank_Half.calls k (IntKind.u64.wrap (a0)) t103 _ A9.out).mono ?_); rintro e w' ⟨rfl, ⟨nd, rfl⟩⟩))
          go_ret
          exact ⟨by first | rfl | (simp [errW_none, errW_some] <;> rfl) | (simp [*, errW_none, errW_some] <;> rfl), by repeat (first | (with_reducible first | exact HB.out | apply below_alloc | apply pw_below_drewN | apply below_drew1) | exact HB.out)⟩
        · rw [if_neg c8] at H
          have c8b0 : ((t102 == 0) == ((IntKind.u64.wrap (a0)) == 0)) = false := by simpa using c8
          (try (have c8b1 : decide ((t102 == 0) = ((IntKind.u64.wrap (a0)) == 0)) = false := by simpa using c8))
          (try (have c8b2 : ((t102 == 0) == ((IntKind.u64.wrap (a0)) == 0)) = false := by simpa using c8))
          (first | (have z_fit : (t102 == 0) = true := by (have z := c8b0; rw [c5b0] at z; simpa using z)) | (have z_fit : (t102 == 0) = false := by (have z := c8b0; rw [c5b0] at z; simpa using z)))
          (try (have c8b3 : ¬ ((t102 == 0) = ((IntKind.u64.wrap (a0)) == 0)) := by simpa using c8))
          clear c8
          obtain rfl := Option.some.inj H
          go_enter Try.func6, Try.ntmps6
          go_wp2_with (first | ((with_reducible refine gate_callee (f := 8) rfl ?_); refine goesL_ (some 8) rfl rfl Try.func8 (by kernel_rfl) rfl #[] rfl (by (try simp only [List.map_toArray, List.map_cons, List.map_nil]); first | done | rfl | (simp only [List.length_drop, List.length_take]; rfl)) ?_; (with_reducible refine (manteletlaw13_shown.calls k  true _ A3.out).mono ?_); rintro e w11 ⟨rfl, hb⟩; refine ⟨_, rfl, ?_⟩; have n0_ := Aside0.mk (below_step (by repeat (first | (with_reducible first | exact HB.out | apply below_alloc | apply pw_below_drewN | apply below_drew1) | exact HB.out)) hb); clear HB; have HB := n0_; clear n0_; (try clear hb); (try clear hb2); (try clear hk); (try clear hi)) | (go_at_call 15; (with_reducible refine (rank_Half.calls k (IntKind.u64.wrap (a0)) t102 _ A7.out).mono ?_); rintro e w' ⟨rfl, ⟨nd, rfl⟩⟩))
          go_ret
          exact ⟨by first | rfl | (simp [errW_none, errW_some] <;> rfl) | (simp [*, errW_none, errW_some] <;> rfl), by repeat (first | (with_reducible first | exact HB.out | apply below_alloc | apply pw_below_drewN | apply below_drew1) | exact HB.out)⟩
      · rw [if_neg c6] at H
        have c6b0 : decide ((IntKind.u64.wrap (a1)) < (IntKind.u64.wrap (a0))) = false := decide_eq_false c6
        clear c6
        replace H := Option.bind_eq_some_iff.mp H
        obtain ⟨t104, A120, H⟩ := H
        replace H : ((rank_Half.f k (IntKind.u64.wrap (a1))).bind fun t105 => (if t104 ≤ t105 then ((rank_Half.f k (IntKind.u64.wrap (a0))).bind fun t106 => (if ((t106 == 0) == ((IntKind.u64.wrap (a0)) == 0)) = true then ((rank_Half.f k (IntKind.u64.wrap (a0))).bind fun t107 => (some (decide (t107 ≤ 32)))) else (some false))) else (some false))) = some r := H
        have A12 := Aside0.mk A120
        clear A120
        (try (have z_same : t104 = t101 := Option.some.inj ((by with_reducible exact A12.out : _ = some t104).symm.trans A3.out); subst z_same))
        (try (have z_same : t104 = t102 := Option.some.inj ((by with_reducible exact A12.out : _ = some t104).symm.trans A7.out); subst z_same))
        replace H := Option.bind_eq_some_iff.mp H
        obtain ⟨t105, A130, H⟩ := H
        replace H : (if t104 ≤ t105 then ((rank_Half.f k (IntKind.u64.wrap (a0))).bind fun t106 => (if ((t106 == 0) == ((IntKind.u64.wrap (a0)) == 0)) = true then ((rank_Half.f k (IntKind.u64.wrap (a0))).bind fun t107 => (some (decide (t107 ≤ 32)))) else (some false))) else (some false)) = some r := H
        have A13 := Aside0.mk A130
        clear A130
        (try (have z_same : t105 = t101 := Option.some.inj ((by with_reducible exact A13.out : _ = some t105).symm.trans A3.out); subst z_same))
        (try (have z_same : t105 = t102 := Option.some.inj ((by with_reducible exact A13.out : _ = some t105).symm.trans A7.out); subst z_same))
        (try (have z_same : t105 = t104 := Option.some.inj ((by with_reducible exact A13.out : _ = some t105).symm.trans A12.out); subst z_same))
        by_cases c14 : t104 ≤ t105
        · rw [if_pos c14] at H
          have c14b0 : decide (t104 ≤ t105) = true := decide_eq_true c14
          clear c14
          replace H := Option.bind_eq_some_iff.mp H
          obtain ⟨t106, A150, H⟩ := H
          replace H : (if ((t106 == 0) == ((IntKind.u64.wrap (a0)) == 0)) = true then ((rank_Half.f k (IntKind.u64.wrap (a0))).bind fun t107 => (some (decide (t107 ≤ 32)))) else (some false)) = some r := H
          have A15 := Aside0.mk A150
          clear A150
          (try (have z_same : t106 = t101 := Option.some.inj ((by with_reducible exact A15.out : _ = some t106).symm.trans A3.out); subst z_same))
          (try (have z_same : t106 = t102 := Option.some.inj ((by with_reducible exact A15.out : _ = some t106).symm.trans A7.out); subst z_same))
          (try (have z_same : t106 = t104 := Option.some.inj ((by with_reducible exact A15.out : _ = some t106).symm.trans A12.out); subst z_same))
          (try (have z_same : t106 = t105 := Option.some.inj ((by with_reducible exact A15.out : _ = some t106).symm.trans A13.out); subst z_same))
          by_cases c16 : ((t106 == 0) == ((IntKind.u64.wrap (a0)) == 0)) = true
          · rw [if_pos c16] at H
            have c16b0 : ((t106 == 0) == ((IntKind.u64.wrap (a0)) == 0)) = true := c16
            (try (have c16b1 : decide ((t106 == 0) = ((IntKind.u64.wrap (a0)) == 0)) = true := by simpa using c16))
            (try (have c16b2 : ((t106 == 0) == ((IntKind.u64.wrap (a0)) == 0)) = true := by simpa using c16))
            (first | (have z_fit : (t106 == 0) = true := by (have z := c16b0; rw [c5b0] at z; simpa using z)) | (have z_fit : (t106 == 0) = false := by (have z := c16b0; rw [c5b0] at z; simpa using z)))
            clear c16
            replace H := Option.bind_eq_some_iff.mp H
            obtain ⟨t107, A170, H⟩ := H
            replace H : (some (decide (t107 ≤ 32))) = some r := H
            have A17 := Aside0.mk A170
            clear A170
            (try (have z_same : t107 = t101 := Option.some.inj ((by with_reducible exact A17.out : _ = some t107).symm.trans A3.out); subst z_same))
            (try (have z_same : t107 = t102 := Option.some.inj ((by with_reducible exact A17.out : _ = some t107).symm.trans A7.out); subst z_same))
            (try (have z_same : t107 = t104 := Option.some.inj ((by with_reducible exact A17.out : _ = some t107).symm.trans A12.out); subst z_same))
            (try (have z_same : t107 = t105 := Option.some.inj ((by with_reducible exact A17.out : _ = some t107).symm.trans A13.out); subst z_same))
            (try (have z_same : t107 = t106 := Option.some.inj ((by with_reducible exact A17.out : _ = some t107).symm.trans A15.out); subst z_same))
            obtain rfl := Option.some.inj H
            go_enter Try.func6, Try.ntmps6
            go_wp2_with (first | ((with_reducible refine gate_callee (f := 8) rfl ?_); refine goesL_ (some 8) rfl rfl Try.func8 (by kernel_rfl) rfl #[] rfl (by (try simp only [List.map_toArray, List.map_cons, List.map_nil]); first | done | rfl | (simp only [List.length_drop, List.length_take]; rfl)) ?_; (with_reducible refine (manteletlaw13_shown.calls k  true _ A3.out).mono ?_); rintro e w18 ⟨rfl, hb⟩; refine ⟨_, rfl, ?_⟩; have n0_ := Aside0.mk (below_step (by repeat (first | (with_reducible first | exact HB.out | apply below_alloc | apply pw_below_drewN | apply below_drew1) | exact HB.out)) hb); clear HB; have HB := n0_; clear n0_; (try clear hb); (try clear hb2); (try clear hk); (try clear hi)) | (go_at_call 15; (with_reducible refine (rank_Half.calls k (IntKind.u64.wrap (a0)) t104 _ A12.out).mono ?_); rintro e w' ⟨rfl, ⟨nd, rfl⟩⟩) | (go_at_call 15; (with_reducible refine (rank_Half.calls k (IntKind.u64.wrap (a1)) t105 _ A13.out).mono ?_); rintro e w' ⟨rfl, ⟨nd, rfl⟩⟩) | (go_at_call 15; (with_reducible refine (rank_Half.calls k (IntKind.u64.wrap (a0)) t106 _ A15.out).mono ?_); rintro e w' ⟨rfl, ⟨nd, rfl⟩⟩) | (go_at_call 15; (with_reducible refine (rank_Half.calls k (IntKind.u64.wrap (a0)) t107 _ A17.out).mono ?_); rintro e w' ⟨rfl, ⟨nd, rfl⟩⟩))
            go_ret
            exact ⟨by first | rfl | (simp [errW_none, errW_some] <;> rfl) | (simp [*, errW_none, errW_some] <;> rfl), by repeat (first | (with_reducible first | exact HB.out | apply below_alloc | apply pw_below_drewN | apply below_drew1) | exact HB.out)⟩
          · rw [if_neg c16] at H
            have c16b0 : ((t106 == 0) == ((IntKind.u64.wrap (a0)) == 0)) = false := by simpa using c16
            (try (have c16b1 : decide ((t106 == 0) = ((IntKind.u64.wrap (a0)) == 0)) = false := by simpa using c16))
            (try (have c16b2 : ((t106 == 0) == ((IntKind.u64.wrap (a0)) == 0)) = false := by simpa using c16))
            (first | (have z_fit : (t106 == 0) = true := by (have z := c16b0; rw [c5b0] at z; simpa using z)) | (have z_fit : (t106 == 0) = false := by (have z := c16b0; rw [c5b0] at z; simpa using z)))
            (try (have c16b3 : ¬ ((t106 == 0) = ((IntKind.u64.wrap (a0)) == 0)) := by simpa using c16))
            clear c16
            obtain rfl := Option.some.inj H
            go_enter Try.func6, Try.ntmps6
            go_wp2_with (first | ((with_reducible refine gate_callee (f := 8) rfl ?_); refine goesL_ (some 8) rfl rfl Try.func8 (by kernel_rfl) rfl #[] rfl (by (try simp only [List.map_toArray, List.map_cons, List.map_nil]); first | done | rfl | (simp only [List.length_drop, List.length_take]; rfl)) ?_; (with_reducible refine (manteletlaw13_shown.calls k  true _ A3.out).mono ?_); rintro e w19 ⟨rfl, hb⟩; refine ⟨_, rfl, ?_⟩; have n0_ := Aside0.mk (below_step (by repeat (first | (with_reducible first | exact HB.out | apply below_alloc | apply pw_below_drewN | apply below_drew1) | exact HB.out)) hb); clear HB; have HB := n0_; clear n0_; (try clear hb); (try clear hb2); (try clear hk); (try clear hi)) | (go_at_call 15; (with_reducible refine (rank_Half.calls k (IntKind.u64.wrap (a0)) t104 _ A12.out).mono ?_); rintro e w' ⟨rfl, ⟨nd, rfl⟩⟩) | (go_at_call 15; (with_reducible refine (rank_Half.calls k (IntKind.u64.wrap (a1)) t105 _ A13.out).mono ?_); rintro e w' ⟨rfl, ⟨nd, rfl⟩⟩) | (go_at_call 15; (with_reducible refine (rank_Half.calls k (IntKind.u64.wrap (a0)) t106 _ A15.out).mono ?_); rintro e w' ⟨rfl, ⟨nd, rfl⟩⟩))
            go_ret
            exact ⟨by first | rfl | (simp [errW_none, errW_some] <;> rfl) | (simp [*, errW_none, errW_some] <;> rfl), by repeat (first | (with_reducible first | exact HB.out | apply below_alloc | apply pw_below_drewN | apply below_drew1) | exact HB.out)⟩
        · rw [if_neg c14] at H
          have c14b0 : decide (t104 ≤ t105) = false := decide_eq_false c14
          clear c14
          obtain rfl := Option.some.inj H
          go_enter Try.func6, Try.ntmps6
          go_wp2_with (first | ((with_reducible refine gate_callee (f := 8) rfl ?_); refine goesL_ (some 8) rfl rfl Try.func8 (by kernel_rfl) rfl #[] rfl (by (try simp only [List.map_toArray, List.map_cons, List.map_nil]); first | done | rfl | (simp only [List.length_drop, List.length_take]; rfl)) ?_; (with_reducible refine (manteletlaw13_shown.calls k  true _ A3.out).mono ?_); rintro e w20 ⟨rfl, hb⟩; refine ⟨_, rfl, ?_⟩; have n0_ := Aside0.mk (below_step (by repeat (first | (with_reducible first | exact HB.out | apply below_alloc | apply pw_below_drewN | apply below_drew1) | exact HB.out)) hb); clear HB; have HB := n0_; clear n0_; (try clear hb); (try clear hb2); (try clear hk); (try clear hi)) | (go_at_call 15; (with_reducible refine (rank_Half.calls k (IntKind.u64.wrap (a0)) t104 _ A12.out).mono ?_); rintro e w' ⟨rfl, ⟨nd, rfl⟩⟩) | (go_at_call 15; (with_reducible refine (rank_Half.calls k (IntKind.u64.wrap (a1)) t105 _ A13.out).mono ?_); rintro e w' ⟨rfl, ⟨nd, rfl⟩⟩))
          go_ret
          exact ⟨by first | rfl | (simp [errW_none, errW_some] <;> rfl) | (simp [*, errW_none, errW_some] <;> rfl), by repeat (first | (with_reducible first | exact HB.out | apply below_alloc | apply pw_below_drewN | apply below_drew1) | exact HB.out)⟩
    · rw [if_neg c5] at H
      have c5b0 : ((IntKind.u64.wrap (a0)) == 0) = false := beq_eq_false_iff_ne.mpr c5
      have c5b1 : ((IntKind.u64.wrap (a0)) != 0) = true := bne_iff_ne.mpr c5
      replace H := Option.bind_eq_some_iff.mp H
      obtain ⟨t108, A210, H⟩ := H
      replace H : ((rank_Half.f k (IntKind.u64.wrap (a0))).bind fun t109 => (if t108 = (wrap64 (t109 + 1)) then ((rank_Half.f k (IntKind.u64.wrap ((IntKind.u64.wrap (2 * (IntKind.u64.wrap (a0)))) + 1))).bind fun t110 => ((rank_Half.f k (IntKind.u64.wrap (2 * (IntKind.u64.wrap (a0))))).bind fun t111 => (if t110 = t111 then (if (IntKind.u64.wrap (a0)) > (IntKind.u64.wrap (a1)) then ((rank_Half.f k (IntKind.u64.wrap (a0))).bind fun t112 => (if ((t112 == 0) == ((IntKind.u64.wrap (a0)) == 0)) = true then ((rank_Half.f k (IntKind.u64.wrap (a0))).bind fun t113 => (some (decide (t113 ≤ 32)))) else (some false))) else ((rank_Half.f k (IntKind.u64.wrap (a0))).bind fun t114 => ((rank_Half.f k (IntKind.u64.wrap (a1))).bind fun t115 => (if t114 ≤ t115 then ((rank_Half.f k (IntKind.u64.wrap (a0))).bind fun t116 => (if ((t116 == 0) == ((IntKind.u64.wrap (a0)) == 0)) = true then ((rank_Half.f k (IntKind.u64.wrap (a0))).bind fun t117 => (some (decide (t117 ≤ 32)))) else (some false))) else (some false))))) else (some false)))) else (some false))) = some r := H
      have A21 := Aside0.mk A210
      clear A210
      (try (have z_same : t108 = t101 := Option.some.inj ((by with_reducible exact A21.out : _ = some t108).symm.trans A3.out); subst z_same))
      replace H := Option.bind_eq_some_iff.mp H
      obtain ⟨t109, A220, H⟩ := H
      replace H : (if t108 = (wrap64 (t109 + 1)) then ((rank_Half.f k (IntKind.u64.wrap ((IntKind.u64.wrap (2 * (IntKind.u64.wrap (a0)))) + 1))).bind fun t110 => ((rank_Half.f k (IntKind.u64.wrap (2 * (IntKind.u64.wrap (a0))))).bind fun t111 => (if t110 = t111 then (if (IntKind.u64.wrap (a0)) > (IntKind.u64.wrap (a1)) then ((rank_Half.f k (IntKind.u64.wrap (a0))).bind fun t112 => (if ((t112 == 0) == ((IntKind.u64.wrap (a0)) == 0)) = true then ((rank_Half.f k (IntKind.u64.wrap (a0))).bind fun t113 => (some (decide (t113 ≤ 32)))) else (some false))) else ((rank_Half.f k (IntKind.u64.wrap (a0))).bind fun t114 => ((rank_Half.f k (IntKind.u64.wrap (a1))).bind fun t115 => (if t114 ≤ t115 then ((rank_Half.f k (IntKind.u64.wrap (a0))).bind fun t116 => (if ((t116 == 0) == ((IntKind.u64.wrap (a0)) == 0)) = true then ((rank_Half.f k (IntKind.u64.wrap (a0))).bind fun t117 => (some (decide (t117 ≤ 32)))) else (some false))) else (some false))))) else (some false)))) else (some false)) = some r := H
      have A22 := Aside0.mk A220
      clear A220
      (try (have z_same : t109 = t101 := Option.some.inj ((by with_reducible exact A22.out : _ = some t109).symm.trans A3.out); subst z_same))
      (try (have z_same : t109 = t108 := Option.some.inj ((by with_reducible exact A22.out : _ = some t109).symm.trans A21.out); subst z_same))
      by_cases c23 : t108 = (wrap64 (t109 + 1))
      · rw [if_pos c23] at H
        have c23b0 : (t108 == (wrap64 (t109 + 1))) = true := beq_iff_eq.mpr c23
        have c23b1 : (t108 != (wrap64 (t109 + 1))) = false := bne_eq_false_iff_eq.mpr c23
        clear c23
        replace H := Option.bind_eq_some_iff.mp H
        obtain ⟨t110, A240, H⟩ := H
        replace H : ((rank_Half.f k (IntKind.u64.wrap (2 * (IntKind.u64.wrap (a0))))).bind fun t111 => (if t110 = t111 then (if (IntKind.u64.wrap (a0)) > (IntKind.u64.wrap (a1)) then ((rank_Half.f k (IntKind.u64.wrap (a0))).bind fun t112 => (if ((t112 == 0) == ((IntKind.u64.wrap (a0)) == 0)) = true then ((rank_Half.f k (IntKind.u64.wrap (a0))).bind fun t113 => (some (decide (t113 ≤ 32)))) else (some false))) else ((rank_Half.f k (IntKind.u64.wrap (a0))).bind fun t114 => ((rank_Half.f k (IntKind.u64.wrap (a1))).bind fun t115 => (if t114 ≤ t115 then ((rank_Half.f k (IntKind.u64.wrap (a0))).bind fun t116 => (if ((t116 == 0) == ((IntKind.u64.wrap (a0)) == 0)) = true then ((rank_Half.f k (IntKind.u64.wrap (a0))).bind fun t117 => (some (decide (t117 ≤ 32)))) else (some false))) else (some false))))) else (some false))) = some r := H
        have A24 := Aside0.mk A240
        clear A240
        (try (have z_same : t110 = t101 := Option.some.inj ((by with_reducible exact A24.out : _ = some t110).symm.trans A3.out); subst z_same))
        (try (have z_same : t110 = t108 := Option.some.inj ((by with_reducible exact A24.out : _ = some t110).symm.trans A21.out); subst z_same))
        (try (have z_same : t110 = t109 := Option.some.inj ((by with_reducible exact A24.out : _ = some t110).symm.trans A22.out); subst z_same))
        replace H := Option.bind_eq_some_iff.mp H
        obtain ⟨t111, A250, H⟩ := H
        replace H : (if t110 = t111 then (if (IntKind.u64.wrap (a0)) > (IntKind.u64.wrap (a1)) then ((rank_Half.f k (IntKind.u64.wrap (a0))).bind fun t112 => (if ((t112 == 0) == ((IntKind.u64.wrap (a0)) == 0)) = true then ((rank_Half.f k (IntKind.u64.wrap (a0))).bind fun t113 => (some (decide (t113 ≤ 32)))) else (some false))) else ((rank_Half.f k (IntKind.u64.wrap (a0))).bind fun t114 => ((rank_Half.f k (IntKind.u64.wrap (a1))).bind fun t115 => (if t114 ≤ t115 then ((rank_Half.f k (IntKind.u64.wrap (a0))).bind fun t116 => (if ((t116 == 0) == ((IntKind.u64.wrap (a0)) == 0)) = true then ((rank_Half.f k (IntKind.u64.wrap (a0))).bind fun t117 => (some (decide (t117 ≤ 32)))) else (some false))) else (some false))))) else (some false)) = some r := H
        have A25 := Aside0.mk A250
        clear A250
        (try (have z_same : t111 = t101 := Option.some.inj ((by with_reducible exact A25.out : _ = some t111).symm.trans A3.out); subst z_same))
        (try (have z_same : t111 = t108 := Option.some.inj ((by with_reducible exact A25.out : _ = some t111).symm.trans A21.out); subst z_same))
        (try (have z_same : t111 = t109 := Option.some.inj ((by with_reducible exact A25.out : _ = some t111).symm.trans A22.out); subst z_same))
        (try (have z_same : t111 = t110 := Option.some.inj ((by with_reducible exact A25.out : _ = some t111).symm.trans A24.out); subst z_same))
        by_cases c26 : t110 = t111
        · rw [if_pos c26] at H
          have c26b0 : (t110 == t111) = true := beq_iff_eq.mpr c26
          have c26b1 : (t110 != t111) = false := bne_eq_false_iff_eq.mpr c26
          clear c26
          by_cases c27 : (IntKind.u64.wrap (a0)) > (IntKind.u64.wrap (a1))
          · rw [if_pos c27] at H
            have c27b0 : decide ((IntKind.u64.wrap (a1)) < (IntKind.u64.wrap (a0))) = true := decide_eq_true c27
            clear c27
            replace H := Option.bind_eq_some_iff.mp H
            obtain ⟨t112, A280, H⟩ := H
            replace H : (if ((t112 == 0) == ((IntKind.u64.wrap (a0)) == 0)) = true then ((rank_Half.f k (IntKind.u64.wrap (a0))).bind fun t113 => (some (decide (t113 ≤ 32)))) else (some false)) = some r := H
            have A28 := Aside0.mk A280
            clear A280
            (try (have z_same : t112 = t101 := Option.some.inj ((by with_reducible exact A28.out : _ = some t112).symm.trans A3.out); subst z_same))
            (try (have z_same : t112 = t108 := Option.some.inj ((by with_reducible exact A28.out : _ = some t112).symm.trans A21.out); subst z_same))
            (try (have z_same : t112 = t109 := Option.some.inj ((by with_reducible exact A28.out : _ = some t112).symm.trans A22.out); subst z_same))
            (try (have z_same : t112 = t110 := Option.some.inj ((by with_reducible exact A28.out : _ = some t112).symm.trans A24.out); subst z_same))
            (try (have z_same : t112 = t111 := Option.some.inj ((by with_reducible exact A28.out : _ = some t112).symm.trans A25.out); subst z_same))
            by_cases c29 : ((t112 == 0) == ((IntKind.u64.wrap (a0)) == 0)) = true
            · rw [if_pos c29] at H
              have c29b0 : ((t112 == 0) == ((IntKind.u64.wrap (a0)) == 0)) = true := c29
              (try (have c29b1 : decide ((t112 == 0) = ((IntKind.u64.wrap (a0)) == 0)) = true := by simpa using c29))
              (try (have c29b2 : ((t112 == 0) == ((IntKind.u64.wrap (a0)) == 0)) = true := by simpa using c29))
              (first | (have z_fit : (t112 == 0) = true := by (have z := c29b0; rw [c5b0] at z; simpa using z)) | (have z_fit : (t112 == 0) = false := by (have z := c29b0; rw [c5b0] at z; simpa using z)))
              clear c29
              replace H := Option.bind_eq_some_iff.mp H
              obtain ⟨t113, A300, H⟩ := H
              replace H : (some (decide (t113 ≤ 32))) = some r := H
              have A30 := Aside0.mk A300
              clear A300
              (try (have z_same : t113 = t101 := Option.some.inj ((by with_reducible exact A30.out : _ = some t113).symm.trans A3.out); subst z_same))
              (try (have z_same : t113 = t108 := Option.some.inj ((by with_reducible exact A30.out : _ = some t113).symm.trans A21.out); subst z_same))
              (try (have z_same : t113 = t109 := Option.some.inj ((by with_reducible exact A30.out : _ = some t113).symm.trans A22.out); subst z_same))
              (try (have z_same : t113 = t110 := Option.some.inj ((by with_reducible exact A30.out : _ = some t113).symm.trans A24.out); subst z_same))
              (try (have z_same : t113 = t111 := Option.some.inj ((by with_reducible exact A30.out : _ = some t113).symm.trans A25.out); subst z_same))
              (try (have z_same : t113 = t112 := Option.some.inj ((by with_reducible exact A30.out : _ = some t113).symm.trans A28.out); subst z_same))
              obtain rfl := Option.some.inj H
              go_enter Try.func6, Try.ntmps6
              go_wp2_with (first | ((with_reducible refine gate_callee (f := 8) rfl ?_); refine goesL_ (some 8) rfl rfl Try.func8 (by kernel_rfl) rfl #[] rfl (by (try simp only [List.map_toArray, List.map_cons, List.map_nil]); first | done | rfl | (simp only [List.length_drop, List.length_take]; rfl)) ?_; (with_reducible refine (manteletlaw13_shown.calls k  true _ A3.out).mono ?_); rintro e w31 ⟨rfl, hb⟩; refine ⟨_, rfl, ?_⟩; have n0_ := Aside0.mk (below_step (by repeat (first | (with_reducible first | exact HB.out | apply below_alloc | apply pw_below_drewN | apply below_drew1) | exact HB.out)) hb); clear HB; have HB := n0_; clear n0_; (try clear hb); (try clear hb2); (try clear hk); (try clear hi)) | (go_at_call 15; (with_reducible refine (rank_Half.calls k (IntKind.u64.wrap (2 * (IntKind.u64.wrap (a0)))) t108 _ A21.out).mono ?_); rintro e w' ⟨rfl, ⟨nd, rfl⟩⟩) | (go_at_call 15; (with_reducible refine (rank_Half.calls k (IntKind.u64.wrap (a0)) t109 _ A22.out).mono ?_); rintro e w' ⟨rfl, ⟨nd, rfl⟩⟩) | (go_at_call 15; (with_reducible refine (rank_Half.calls k (IntKind.u64.wrap ((IntKind.u64.wrap (2 * (IntKind.u64.wrap (a0)))) + 1)) t110 _ A24.out).mono ?_); rintro e w' ⟨rfl, ⟨nd, rfl⟩⟩) | (go_at_call 15; (with_reducible refine (rank_Half.calls k (IntKind.u64.wrap (2 * (IntKind.u64.wrap (a0)))) t111 _ A25.out).mono ?_); rintro e w' ⟨rfl, ⟨nd, rfl⟩⟩) | (go_at_call 15; (with_reducible refine (rank_Half.calls k (IntKind.u64.wrap (a0)) t112 _ A28.out).mono ?_); rintro e w' ⟨rfl, ⟨nd, rfl⟩⟩) | (go_at_call 15; (with_reducible refine (rank_Half.calls k (IntKind.u64.wrap (a0)) t113 _ A30.out).mono ?_); rintro e w' ⟨rfl, ⟨nd, rfl⟩⟩))
              go_ret
              exact ⟨by first | rfl | (simp [errW_none, errW_some] <;> rfl) | (simp [*, errW_none, errW_some] <;> rfl), by repeat (first | (with_reducible first | exact HB.out | apply below_alloc | apply pw_below_drewN | apply below_drew1) | exact HB.out)⟩
            · rw [if_neg c29] at H
              have c29b0 : ((t112 == 0) == ((IntKind.u64.wrap (a0)) == 0)) = false := by simpa using c29
              (try (have c29b1 : decide ((t112 == 0) = ((IntKind.u64.wrap (a0)) == 0)) = false := by simpa using c29))
              (try (have c29b2 : ((t112 == 0) == ((IntKind.u64.wrap (a0)) == 0)) = false := by simpa using c29))
              (first | (have z_fit : (t112 == 0) = true := by (have z := c29b0; rw [c5b0] at z; simpa using z)) | (have z_fit : (t112 == 0) = false := by (have z := c29b0; rw [c5b0] at z; simpa using z)))
              (try (have c29b3 : ¬ ((t112 == 0) = ((IntKind.u64.wrap (a0)) == 0)) := by simpa using c29))
              clear c29
              obtain rfl := Option.some.inj H
              go_enter Try.func6, Try.ntmps6
              go_wp2_with (first | ((with_reducible refine gate_callee (f := 8) rfl ?_); refine goesL_ (some 8) rfl rfl Try.func8 (by kernel_rfl) rfl #[] rfl (by (try simp only [List.map_toArray, List.map_cons, List.map_nil]); first | done | rfl | (simp only [List.length_drop, List.length_take]; rfl)) ?_; (with_reducible refine (manteletlaw13_shown.calls k  true _ A3.out).mono ?_); rintro e w32 ⟨rfl, hb⟩; refine ⟨_, rfl, ?_⟩; have n0_ := Aside0.mk (below_step (by repeat (first | (with_reducible first | exact HB.out | apply below_alloc | apply pw_below_drewN | apply below_drew1) | exact HB.out)) hb); clear HB; have HB := n0_; clear n0_; (try clear hb); (try clear hb2); (try clear hk); (try clear hi)) | (go_at_call 15; (with_reducible refine (rank_Half.calls k (IntKind.u64.wrap (2 * (IntKind.u64.wrap (a0)))) t108 _ A21.out).mono ?_); rintro e w' ⟨rfl, ⟨nd, rfl⟩⟩) | (go_at_call 15; (with_reducible refine (rank_Half.calls k (IntKind.u64.wrap (a0)) t109 _ A22.out).mono ?_); rintro e w' ⟨rfl, ⟨nd, rfl⟩⟩) | (go_at_call 15; (with_reducible refine (rank_Half.calls k (IntKind.u64.wrap ((IntKind.u64.wrap (2 * (IntKind.u64.wrap (a0)))) + 1)) t110 _ A24.out).mono ?_); rintro e w' ⟨rfl, ⟨nd, rfl⟩⟩) | (go_at_call 15; (with_reducible refine (rank_Half.calls k (IntKind.u64.wrap (2 * (IntKind.u64.wrap (a0)))) t111 _ A25.out).mono ?_); rintro e w' ⟨rfl, ⟨nd, rfl⟩⟩) | (go_at_call 15; (with_reducible refine (rank_Half.calls k (IntKind.u64.wrap (a0)) t112 _ A28.out).mono ?_); rintro e w' ⟨rfl, ⟨nd, rfl⟩⟩))
              go_ret
              exact ⟨by first | rfl | (simp [errW_none, errW_some] <;> rfl) | (simp [*, errW_none, errW_some] <;> rfl), by repeat (first | (with_reducible first | exact HB.out | apply below_alloc | apply pw_below_drewN | apply below_drew1) | exact HB.out)⟩
          · rw [if_neg c27] at H
            have c27b0 : decide ((IntKind.u64.wrap (a1)) < (IntKind.u64.wrap (a0))) = false := decide_eq_false c27
            clear c27
            replace H := Option.bind_eq_some_iff.mp H
            obtain ⟨t114, A330, H⟩ := H
            replace H : ((rank_Half.f k (IntKind.u64.wrap (a1))).bind fun t115 => (if t114 ≤ t115 then ((rank_Half.f k (IntKind.u64.wrap (a0))).bind fun t116 => (if ((t116 == 0) == ((IntKind.u64.wrap (a0)) == 0)) = true then ((rank_Half.f k (IntKind.u64.wrap (a0))).bind fun t117 => (some (decide (t117 ≤ 32)))) else (some false))) else (some false))) = some r := H
            have A33 := Aside0.mk A330
            clear A330
            (try (have z_same : t114 = t101 := Option.some.inj ((by with_reducible exact A33.out : _ = some t114).symm.trans A3.out); subst z_same))
            (try (have z_same : t114 = t108 := Option.some.inj ((by with_reducible exact A33.out : _ = some t114).symm.trans A21.out); subst z_same))
            (try (have z_same : t114 = t109 := Option.some.inj ((by with_reducible exact A33.out : _ = some t114).symm.trans A22.out); subst z_same))
            (try (have z_same : t114 = t110 := Option.some.inj ((by with_reducible exact A33.out : _ = some t114).symm.trans A24.out); subst z_same))
            (try (have z_same : t114 = t111 := Option.some.inj ((by with_reducible exact A33.out : _ = some t114).symm.trans A25.out); subst z_same))
            (try (have z_same : t114 = t112 := Option.some.inj ((by with_reducible exact A33.out : _ = some t114).symm.trans A28.out); subst z_same))
            replace H := Option.bind_eq_some_iff.mp H
            obtain ⟨t115, A340, H⟩ := H
            replace H : (if t114 ≤ t115 then ((rank_Half.f k (IntKind.u64.wrap (a0))).bind fun t116 => (if ((t116 == 0) == ((IntKind.u64.wrap (a0)) == 0)) = true then ((rank_Half.f k (IntKind.u64.wrap (a0))).bind fun t117 => (some (decide (t117 ≤ 32)))) else (some false))) else (some false)) = some r := H
            have A34 := Aside0.mk A340
            clear A340
            (try (have z_same : t115 = t101 := Option.some.inj ((by with_reducible exact A34.out : _ = some t115).symm.trans A3.out); subst z_same))
            (try (have z_same : t115 = t108 := Option.some.inj ((by with_reducible exact A34.out : _ = some t115).symm.trans A21.out); subst z_same))
            (try (have z_same : t115 = t109 := Option.some.inj ((by with_reducible exact A34.out : _ = some t115).symm.trans A22.out); subst z_same))
            (try (have z_same : t115 = t110 := Option.some.inj ((by with_reducible exact A34.out : _ = some t115).symm.trans A24.out); subst z_same))
            (try (have z_same : t115 = t111 := Option.some.inj ((by with_reducible exact A34.out : _ = some t115).symm.trans A25.out); subst z_same))
            (try (have z_same : t115 = t112 := Option.some.inj ((by with_reducible exact A34.out : _ = some t115).symm.trans A28.out); subst z_same))
            (try (have z_same : t115 = t114 := Option.some.inj ((by with_reducible exact A34.out : _ = some t115).symm.trans A33.out); subst z_same))
            by_cases c35 : t114 ≤ t115
            · rw [if_pos c35] at H
              have c35b0 : decide (t114 ≤ t115) = true := decide_eq_true c35
              clear c35
              replace H := Option.bind_eq_some_iff.mp H
              obtain ⟨t116, A360, H⟩ := H
              replace H : (if ((t116 == 0) == ((IntKind.u64.wrap (a0)) == 0)) = true then ((rank_Half.f k (IntKind.u64.wrap (a0))).bind fun t117 => (some (decide (t117 ≤ 32)))) else (some false)) = some r := H
              have A36 := Aside0.mk A360
              clear A360
              (try (have z_same : t116 = t101 := Option.some.inj ((by with_reducible exact A36.out : _ = some t116).symm.trans A3.out); subst z_same))
              (try (have z_same : t116 = t108 := Option.some.inj ((by with_reducible exact A36.out : _ = some t116).symm.trans A21.out); subst z_same))
              (try (have z_same : t116 = t109 := Option.some.inj ((by with_reducible exact A36.out : _ = some t116).symm.trans A22.out); subst z_same))
              (try (have z_same : t116 = t110 := Option.some.inj ((by with_reducible exact A36.out : _ = some t116).symm.trans A24.out); subst z_same))
              (try (have z_same : t116 = t111 := Option.some.inj ((by with_reducible exact A36.out : _ = some t116).symm.trans A25.out); subst z_same))
              (try (have z_same : t116 = t112 := Option.some.inj ((by with_reducible exact A36.out : _ = some t116).symm.trans A28.out); subst z_same))
              (try (have z_same : t116 = t114 := Option.some.inj ((by with_reducible exact A36.out : _ = some t116).symm.trans A33.out); subst z_same))
              (try (have z_same : t116 = t115 := Option.some.inj ((by with_reducible exact A36.out : _ = some t116).symm.trans A34.out); subst z_same))
              by_cases c37 : ((t116 == 0) == ((IntKind.u64.wrap (a0)) == 0)) = true
              · rw [if_pos c37] at H
                have c37b0 : ((t116 == 0) == ((IntKind.u64.wrap (a0)) == 0)) = true := c37
                (try (have c37b1 : decide ((t116 == 0) = ((IntKind.u64.wrap (a0)) == 0)) = true := by simpa using c37))
                (try (have c37b2 : ((t116 == 0) == ((IntKind.u64.wrap (a0)) == 0)) = true := by simpa using c37))
                (first | (have z_fit : (t116 == 0) = true := by (have z := c37b0; rw [c5b0] at z; simpa using z)) | (have z_fit : (t116 == 0) = false := by (have z := c37b0; rw [c5b0] at z; simpa using z)))
                clear c37
                replace H := Option.bind_eq_some_iff.mp H
                obtain ⟨t117, A380, H⟩ := H
                replace H : (some (decide (t117 ≤ 32))) = some r := H
                have A38 := Aside0.mk A380
                clear A380
                (try (have z_same : t117 = t101 := Option.some.inj ((by with_reducible exact A38.out : _ = some t117).symm.trans A3.out); subst z_same))
                (try (have z_same : t117 = t108 := Option.some.inj ((by with_reducible exact A38.out : _ = some t117).symm.trans A21.out); subst z_same))
                (try (have z_same : t117 = t109 := Option.some.inj ((by with_reducible exact A38.out : _ = some t117).symm.trans A22.out); subst z_same))
                (try (have z_same : t117 = t110 := Option.some.inj ((by with_reducible exact A38.out : _ = some t117).symm.trans A24.out); subst z_same))
                (try (have z_same : t117 = t111 := Option.some.inj ((by with_reducible exact A38.out : _ = some t117).symm.trans A25.out); subst z_same))
                (try (have z_same : t117 = t112 := Option.some.inj ((by with_reducible exact A38.out : _ = some t117).symm.trans A28.out); subst z_same))
                (try (have z_same : t117 = t114 := Option.some.inj ((by with_reducible exact A38.out : _ = some t117).symm.trans A33.out); subst z_same))
                (try (have z_same : t117 = t115 := Option.some.inj ((by with_reducible exact A38.out : _ = some t117).symm.trans A34.out); subst z_same))
                (try (have z_same : t117 = t116 := Option.some.inj ((by with_reducible exact A38.out : _ = some t117).symm.trans A36.out); subst z_same))
                obtain rfl := Option.some.inj H
                go_enter Try.func6, Try.ntmps6
                go_wp2_with (first | ((with_reducible refine gate_callee (f := 8) rfl ?_); refine goesL_ (some 8) rfl rfl Try.func8 (by kernel_rfl) rfl #[] rfl (by (try simp only [List.map_toArray, List.map_cons, List.map_nil]); first | done | rfl | (simp only [List.length_drop, List.length_take]; rfl)) ?_; (with_reducible refine (manteletlaw13_shown.calls k  true _ A3.out).mono ?_); rintro e w39 ⟨rfl, hb⟩; refine ⟨_, rfl, ?_⟩; have n0_ := Aside0.mk (below_step (by repeat (first | (with_reducible first | exact HB.out | apply below_alloc | apply pw_below_drewN | apply below_drew1) | exact HB.out)) hb); clear HB; have HB := n0_; clear n0_; (try clear hb); (try clear hb2); (try clear hk); (try clear hi)) | (go_at_call 15; (with_reducible refine (rank_Half.calls k (IntKind.u64.wrap (2 * (IntKind.u64.wrap (a0)))) t108 _ A21.out).mono ?_); rintro e w' ⟨rfl, ⟨nd, rfl⟩⟩) | (go_at_call 15; (with_reducible refine (rank_Half.calls k (IntKind.u64.wrap (a0)) t109 _ A22.out).mono ?_); rintro e w' ⟨rfl, ⟨nd, rfl⟩⟩) | (go_at_call 15; (with_reducible refine (rank_Half.calls k (IntKind.u64.wrap ((IntKind.u64.wrap (2 * (IntKind.u64.wrap (a0)))) + 1)) t110 _ A24.out).mono ?_); rintro e w' ⟨rfl, ⟨nd, rfl⟩⟩) | (go_at_call 15; (with_reducible refine (rank_Half.calls k (IntKind.u64.wrap (2 * (IntKind.u64.wrap (a0)))) t111 _ A25.out).mono ?_); rintro e w' ⟨rfl, ⟨nd, rfl⟩⟩) | (go_at_call 15; (with_reducible refine (rank_Half.calls k (IntKind.u64.wrap (a0)) t114 _ A33.out).mono ?_); rintro e w' ⟨rfl, ⟨nd, rfl⟩⟩) | (go_at_call 15; (with_reducible refine (rank_Half.calls k (IntKind.u64.wrap (a1)) t115 _ A34.out).mono ?_); rintro e w' ⟨rfl, ⟨nd, rfl⟩⟩) | (go_at_call 15; (with_reducible refine (rank_Half.calls k (IntKind.u64.wrap (a0)) t116 _ A36.out).mono ?_); rintro e w' ⟨rfl, ⟨nd, rfl⟩⟩) | (go_at_call 15; (with_reducible refine (rank_Half.calls k (IntKind.u64.wrap (a0)) t117 _ A38.out).mono ?_); rintro e w' ⟨rfl, ⟨nd, rfl⟩⟩))
                go_ret
                exact ⟨by first | rfl | (simp [errW_none, errW_some] <;> rfl) | (simp [*, errW_none, errW_some] <;> rfl), by repeat (first | (with_reducible first | exact HB.out | apply below_alloc | apply pw_below_drewN | apply below_drew1) | exact HB.out)⟩
              · rw [if_neg c37] at H
                have c37b0 : ((t116 == 0) == ((IntKind.u64.wrap (a0)) == 0)) = false := by simpa using c37
                (try (have c37b1 : decide ((t116 == 0) = ((IntKind.u64.wrap (a0)) == 0)) = false := by simpa using c37))
                (try (have c37b2 : ((t116 == 0) == ((IntKind.u64.wrap (a0)) == 0)) = false := by simpa using c37))
                (first | (have z_fit : (t116 == 0) = true := by (have z := c37b0; rw [c5b0] at z; simpa using z)) | (have z_fit : (t116 == 0) = false := by (have z := c37b0; rw [c5b0] at z; simpa using z)))
                (try (have c37b3 : ¬ ((t116 == 0) = ((IntKind.u64.wrap (a0)) == 0)) := by simpa using c37))
                clear c37
                obtain rfl := Option.some.inj H
                go_enter Try.func6, Try.ntmps6
                go_wp2_with (first | ((with_reducible refine gate_callee (f := 8) rfl ?_); refine goesL_ (some 8) rfl rfl Try.func8 (by kernel_rfl) rfl #[] rfl (by (try simp only [List.map_toArray, List.map_cons, List.map_nil]); first | done | rfl | (simp only [List.length_drop, List.length_take]; rfl)) ?_; (with_reducible refine (manteletlaw13_shown.calls k  true _ A3.out).mono ?_); rintro e w40 ⟨rfl, hb⟩; refine ⟨_, rfl, ?_⟩; have n0_ := Aside0.mk (below_step (by repeat (first | (with_reducible first | exact HB.out | apply below_alloc | apply pw_below_drewN | apply below_drew1) | exact HB.out)) hb); clear HB; have HB := n0_; clear n0_; (try clear hb); (try clear hb2); (try clear hk); (try clear hi)) | (go_at_call 15; (with_reducible refine (rank_Half.calls k (IntKind.u64.wrap (2 * (IntKind.u64.wrap (a0)))) t108 _ A21.out).mono ?_); rintro e w' ⟨rfl, ⟨nd, rfl⟩⟩) | (go_at_call 15; (with_reducible refine (rank_Half.calls k (IntKind.u64.wrap (a0)) t109 _ A22.out).mono ?_); rintro e w' ⟨rfl, ⟨nd, rfl⟩⟩) | (go_at_call 15; (with_reducible refine (rank_Half.calls k (IntKind.u64.wrap ((IntKind.u64.wrap (2 * (IntKind.u64.wrap (a0)))) + 1)) t110 _ A24.out).mono ?_); rintro e w' ⟨rfl, ⟨nd, rfl⟩⟩) | (go_at_call 15; (with_reducible refine (rank_Half.calls k (IntKind.u64.wrap (2 * (IntKind.u64.wrap (a0)))) t111 _ A25.out).mono ?_); rintro e w' ⟨rfl, ⟨nd, rfl⟩⟩) | (go_at_call 15; (with_reducible refine (rank_Half.calls k (IntKind.u64.wrap (a0)) t114 _ A33.out).mono ?_); rintro e w' ⟨rfl, ⟨nd, rfl⟩⟩) | (go_at_call 15; (with_reducible refine (rank_Half.calls k (IntKind.u64.wrap (a1)) t115 _ A34.out).mono ?_); rintro e w' ⟨rfl, ⟨nd, rfl⟩⟩) | (go_at_call 15; (with_reducible refine (rank_Half.calls k (IntKind.u64.wrap (a0)) t116 _ A36.out).mono ?_); rintro e w' ⟨rfl, ⟨nd, rfl⟩⟩))
                go_ret
                exact ⟨by first | rfl | (simp [errW_none, errW_some] <;> rfl) | (simp [*, errW_none, errW_some] <;> rfl), by repeat (first | (with_reducible first | exact HB.out | apply below_alloc | apply pw_below_drewN | apply below_drew1) | exact HB.out)⟩
            · rw [if_neg c35] at H
              have c35b0 : decide (t114 ≤ t115) = false := decide_eq_false c35
              clear c35
              obtain rfl := Option.some.inj H
              go_enter Try.func6, Try.ntmps6
              go_wp2_with (first | ((with_reducible refine gate_callee (f := 8) rfl ?_); refine goesL_ (some 8) rfl rfl Try.func8 (by kernel_rfl) rfl #[] rfl (by (try simp only [List.map_toArray, List.map_cons, List.map_nil]); first | done | rfl | (simp only [List.length_drop, List.length_take]; rfl)) ?_; (with_reducible refine (manteletlaw13_shown.calls k  true _ A3.out).mono ?_); rintro e w41 ⟨rfl, hb⟩; refine ⟨_, rfl, ?_⟩; have n0_ := Aside0.mk (below_step (by repeat (first | (with_reducible first | exact HB.out | apply below_alloc | apply pw_below_drewN | apply below_drew1) | exact HB.out)) hb); clear HB; have HB := n0_; clear n0_; (try clear hb); (try clear hb2); (try clear hk); (try clear hi)) | (go_at_call 15; (with_reducible refine (rank_Half.calls k (IntKind.u64.wrap (2 * (IntKind.u64.wrap (a0)))) t108 _ A21.out).mono ?_); rintro e w' ⟨rfl, ⟨nd, rfl⟩⟩) | (go_at_call 15; (with_reducible refine (rank_Half.calls k (IntKind.u64.wrap (a0)) t109 _ A22.out).mono ?_); rintro e w' ⟨rfl, ⟨nd, rfl⟩⟩) | (go_at_call 15; (with_reducible refine (rank_Half.calls k (IntKind.u64.wrap ((IntKind.u64.wrap (2 * (IntKind.u64.wrap (a0)))) + 1)) t110 _ A24.out).mono ?_); rintro e w' ⟨rfl, ⟨nd, rfl⟩⟩) | (go_at_call 15; (with_reducible refine (rank_Half.calls k (IntKind.u64.wrap (2 * (IntKind.u64.wrap (a0)))) t111 _ A25.out).mono ?_); rintro e w' ⟨rfl, ⟨nd, rfl⟩⟩) | (go_at_call 15; (with_reducible refine (rank_Half.calls k (IntKind.u64.wrap (a0)) t114 _ A33.out).mono ?_); rintro e w' ⟨rfl, ⟨nd, rfl⟩⟩) | (go_at_call 15; (with_reducible refine (rank_Half.calls k (IntKind.u64.wrap (a1)) t115 _ A34.out).mono ?_); rintro e w' ⟨rfl, ⟨nd, rfl⟩⟩))
              go_ret
              exact ⟨by first | rfl | (simp [errW_none, errW_some] <;> rfl) | (simp [*, errW_none, errW_some] <;> rfl), by repeat (first | (with_reducible first | exact HB.out | apply below_alloc | apply pw_below_drewN | apply below_drew1) | exact HB.out)⟩
        · rw [if_neg c26] at H
          have c26b0 : (t110 == t111) = false := beq_eq_false_iff_ne.mpr c26
          have c26b1 : (t110 != t111) = true := bne_iff_ne.mpr c26
          obtain rfl := Option.some.inj H
          go_enter Try.func6, Try.ntmps6
          go_wp2_with (first | ((with_reducible refine gate_callee (f := 8) rfl ?_); refine goesL_ (some 8) rfl rfl Try.func8 (by kernel_rfl) rfl #[] rfl (by (try simp only [List.map_toArray, List.map_cons, List.map_nil]); first | done | rfl | (simp only [List.length_drop, List.length_take]; rfl)) ?_; (with_reducible refine (manteletlaw13_shown.calls k  true _ A3.out).mono ?_); rintro e w42 ⟨rfl, hb⟩; refine ⟨_, rfl, ?_⟩; have n0_ := Aside0.mk (below_step (by repeat (first | (with_reducible first | exact HB.out | apply below_alloc | apply pw_below_drewN | apply below_drew1) | exact HB.out)) hb); clear HB; have HB := n0_; clear n0_; (try clear hb); (try clear hb2); (try clear hk); (try clear hi)) | (go_at_call 15; (with_reducible refine (rank_Half.calls k (IntKind.u64.wrap (2 * (IntKind.u64.wrap (a0)))) t108 _ A21.out).mono ?_); rintro e w' ⟨rfl, ⟨nd, rfl⟩⟩) | (go_at_call 15; (with_reducible refine (rank_Half.calls k (IntKind.u64.wrap (a0)) t109 _ A22.out).mono ?_); rintro e w' ⟨rfl, ⟨nd, rfl⟩⟩) | (go_at_call 15; (with_reducible refine (rank_Half.calls k (IntKind.u64.wrap ((IntKind.u64.wrap (2 * (IntKind.u64.wrap (a0)))) + 1)) t110 _ A24.out).mono ?_); rintro e w' ⟨rfl, ⟨nd, rfl⟩⟩) | (go_at_call 15; (with_reducible refine (rank_Half.calls k (IntKind.u64.wrap (2 * (IntKind.u64.wrap (a0)))) t111 _ A25.out).mono ?_); rintro e w' ⟨rfl, ⟨nd, rfl⟩⟩))
          go_ret
          exact ⟨by first | rfl | (simp [errW_none, errW_some] <;> rfl) | (simp [*, errW_none, errW_some] <;> rfl), by repeat (first | (with_reducible first | exact HB.out | apply below_alloc | apply pw_below_drewN | apply below_drew1) | exact HB.out)⟩
      · rw [if_neg c23] at H
        have c23b0 : (t108 == (wrap64 (t109 + 1))) = false := beq_eq_false_iff_ne.mpr c23
        have c23b1 : (t108 != (wrap64 (t109 + 1))) = true := bne_iff_ne.mpr c23
        obtain rfl := Option.some.inj H
        go_enter Try.func6, Try.ntmps6
        go_wp2_with (first | ((with_reducible refine gate_callee (f := 8) rfl ?_); refine goesL_ (some 8) rfl rfl Try.func8 (by kernel_rfl) rfl #[] rfl (by (try simp only [List.map_toArray, List.map_cons, List.map_nil]); first | done | rfl | (simp only [List.length_drop, List.length_take]; rfl)) ?_; (with_reducible refine (manteletlaw13_shown.calls k  true _ A3.out).mono ?_); rintro e w43 ⟨rfl, hb⟩; refine ⟨_, rfl, ?_⟩; have n0_ := Aside0.mk (below_step (by repeat (first | (with_reducible first | exact HB.out | apply below_alloc | apply pw_below_drewN | apply below_drew1) | exact HB.out)) hb); clear HB; have HB := n0_; clear n0_; (try clear hb); (try clear hb2); (try clear hk); (try clear hi)) | (go_at_call 15; (with_reducible refine (rank_Half.calls k (IntKind.u64.wrap (2 * (IntKind.u64.wrap (a0)))) t108 _ A21.out).mono ?_); rintro e w' ⟨rfl, ⟨nd, rfl⟩⟩) | (go_at_call 15; (with_reducible refine (rank_Half.calls k (IntKind.u64.wrap (a0)) t109 _ A22.out).mono ?_); rintro e w' ⟨rfl, ⟨nd, rfl⟩⟩))
        go_ret
        exact ⟨by first | rfl | (simp [errW_none, errW_some] <;> rfl) | (simp [*, errW_none, errW_some] <;> rfl), by repeat (first | (with_reducible first | exact HB.out | apply below_alloc | apply pw_below_drewN | apply below_drew1) | exact HB.out)⟩
  · replace c4 := Bool.eq_false_iff.mpr c4
    subst c4
    have H1 : (some false) = some r := by rw [if_neg (show ¬ (false = true) by decide)] at H; exact H
    clear H
    have H := H1
    clear H1
    obtain rfl := Option.some.inj H
    go_enter Try.func6, Try.ntmps6
    go_wp2_with (first | ((with_reducible refine gate_callee (f := 8) rfl ?_); refine goesL_ (some 8) rfl rfl Try.func8 (by kernel_rfl) rfl #[] rfl (by (try simp only [List.map_toArray, List.map_cons, List.map_nil]); first | done | rfl | (simp only [List.length_drop, List.length_take]; rfl)) ?_; (with_reducible refine (manteletlaw13_shown.calls k  false _ A3.out).mono ?_); rintro e w44 ⟨rfl, hb⟩; refine ⟨_, rfl, ?_⟩; have n0_ := Aside0.mk (below_step (by repeat (first | (with_reducible first | exact HB.out | apply below_alloc | apply pw_below_drewN | apply below_drew1) | exact HB.out)) hb); clear HB; have HB := n0_; clear n0_; (try clear hb); (try clear hb2); (try clear hk); (try clear hi)))
    go_ret
    exact ⟨by first | rfl | (simp [errW_none, errW_some] <;> rfl) | (simp [*, errW_none, errW_some] <;> rfl), by repeat (first | (with_reducible first | exact HB.out | apply below_alloc | apply pw_below_drewN | apply below_drew1) | exact HB.out)⟩

/-- THE ONE PURE STATEMENT of manteletlaw13_RankHalves: yours. -/
def manteletlaw13_RankHalves.Pure : Prop := ∀ (a0 : Int) (a1 : Int), (Lit.int .u32 a0).wf = true → (Lit.int .u32 a1).wf = true → ∃ k, manteletlaw13_RankHalves.f k a0 a1 = some true
theorem manteletlaw13_RankHalves.walk (P : manteletlaw13_RankHalves.Pure) (a0 : Int) (a1 : Int) (w : World) (w0 : (Lit.int .u32 a0).wf = true) (w1 : (Lit.int .u32 a1).wf = true) :
    Calls Try.prog 6 #[.int .u32 a0, .int .u32 a1] w fun e w' => e = .returned (.bool true) ∧ Below w.heap.size w w' := by
  obtain ⟨k, h⟩ := P a0 a1 w0 w1
  refine (manteletlaw13_RankHalves.calls k a0 a1 true w h).mono ?_
  rintro e w' ⟨rfl, hd⟩
  exact ⟨rfl, hd⟩

end Go.Proofs.Ytcikngokiodabaa.PRankHalves

namespace Go.Proofs.Ytcikngokiodabaa.K
open Go.RowKit Go.Proofs.YtcikngokiodabaaW.PrintWords Go.Proofs.YtcikngokiodabaaW.PrintLast Go.Proofs.YtcikngokiodabaaW.PrintMore Go.Proofs.Ytcikngokiodabaa
attribute [local go_sem] max2_int min2_int max_two min_two max_three min_three max_four min_four
set_option linter.unusedVariables false
set_option linter.unusedSimpArgs false
open Go Go.Proofs.Ytcikngokiodabaa.PR13 Go.Proofs.Ytcikngokiodabaa.PSh13
theorem u64_id {x : Int} (h0 : 0 ≤ x) (h1 : x < 18446744073709551616) : IntKind.u64.wrap x = x := by
  simp only [IntKind.wrap, IntKind.bits, IntKind.signed]
  simp
  omega
theorem w64_id {x : Int} (h0 : -9223372036854775808 ≤ x) (h1 : x < 9223372036854775808) : wrap64 x = x := by unfold wrap64; omega
def half (n : Nat) : Nat := if h : n = 0 then 0 else half (n / 2) + 1
termination_by n
decreasing_by omega
theorem half_zero : half 0 = 0 := by unfold half; simp
theorem half_pos {n : Nat} (h : n ≠ 0) : half n = half (n / 2) + 1 := by rw [half]; simp [h]
theorem half_le : ∀ (k n : Nat), n < 2 ^ k → half n ≤ k
  | 0, n, h => by have : n = 0 := by omega
                  subst this; rw [half_zero]; omega
  | k + 1, n, h => by
    by_cases h0 : n = 0
    · subst h0; rw [half_zero]; omega
    · rw [half_pos h0]
      have := half_le k (n / 2) (by rw [Nat.pow_succ] at h; omega)
      omega
theorem half_two {n : Nat} (h : n ≠ 0) : half (2 * n) = half n + 1 := by
  rw [half_pos (by omega), show 2 * n / 2 = n by omega]
theorem half_odd {n : Nat} (h : n ≠ 0) : half (2 * n + 1) = half n + 1 := by
  rw [half_pos (by omega), show (2 * n + 1) / 2 = n by omega]
theorem half_mono : ∀ (b a : Nat), a ≤ b → half a ≤ half b := fun b => by
  induction b using Nat.strongRecOn with
  | _ b ih =>
    intro a h
    by_cases ha : a = 0
    · subst ha; rw [half_zero]; omega
    · rw [half_pos ha, half_pos (show b ≠ 0 by omega)]
      have := ih (b / 2) (by omega) (a / 2) (by omega)
      omega
theorem half_eq_zero {a : Nat} : half a = 0 ↔ a = 0 := by
  constructor
  · intro h
    by_cases ha : a = 0
    · exact ha
    · rw [half_pos ha] at h; omega
  · rintro rfl; exact half_zero
theorem tdiv2 (n : Nat) : Int.tdiv (n : Int) 2 = ((n / 2 : Nat) : Int) := by
  rw [Int.tdiv_eq_ediv_of_nonneg (by omega)]; omega
theorem half_l0 : ∀ (n : Nat), n < 18446744073709551616 → ∀ m : Nat, m + half n ≤ 1000000 → Ev (fun k => rank_Half.l0 k (n : Int) (m : Int)) (((m + half n : Nat)) : Int) := fun n => by
  induction n using Nat.strongRecOn with
  | _ n ih =>
    intro hn m hm
    by_cases h0 : n = 0
    · subst h0
      rw [half_zero]
      refine Ev.step (fun k => ?_) (Ev.now _)
      simp only [rank_Half.l0]
      rw [if_neg (by omega)]
      rfl
    · rw [half_pos h0] at hm ⊢
      have h1 := ih (n / 2) (by omega) (by omega) (m + 1) (by omega)
      rw [show m + (half (n / 2) + 1) = m + 1 + half (n / 2) by omega]
      refine Ev.step (fun k => ?_) h1
      simp only [rank_Half.l0]
      rw [if_pos (by omega), tdiv2, u64_id (by omega) (by omega), w64_id (by omega) (by omega)]
      rfl
theorem half_f (n : Nat) (hn : n < 18446744073709551616) : Ev (fun k => rank_Half.f k (n : Int)) ((half n : Nat) : Int) := by
  have hb := half_le 64 n (by omega)
  have h := half_l0 n hn 0 (by omega)
  rw [Nat.zero_add] at h
  exact h
def ent (c : Int) : S35 := ⟨⟨#[97]⟩, c⟩
def cntE (l : List Int) : List S35 := (l.take 400).map ent
theorem rd_at (l : List Int) (i : Nat) (h : i < l.length) : rd l (i : Int) = l[i] := by
  unfold rd
  rw [Int.toNat_natCast, List.getD_eq_getElem?_getD, List.getElem?_eq_getElem h]; rfl
theorem counts_l0 (l : List Int) (hl : l.length ≤ 4611686018427387904) : ∀ (d i : Nat), i + d = min l.length 400 → Ev (fun k => manteletlaw13_counts.l0 k l ((l.take i).map ent) (i : Int)) (cntE l)
  | 0, i, hd => by
    have e : (l.take i).map ent = cntE l := by
      unfold cntE
      by_cases h : l.length ≤ 400
      · rw [List.take_of_length_le (by omega), List.take_of_length_le (by omega)]
      · rw [show i = 400 by omega]
    rw [e]
    refine Ev.step (fun k => ?_) (Ev.now _)
    simp only [manteletlaw13_counts.l0]
    by_cases h : (i : Int) < (l.length : Int)
    · rw [if_pos h, if_neg (by omega)]
    · rw [if_neg h]
  | d + 1, i, hd => by
    have hi : i < l.length := by omega
    have ih := counts_l0 l hl d (i + 1) (by omega)
    refine Ev.step (fun k => ?_) ih
    simp only [manteletlaw13_counts.l0]
    rw [if_pos (by omega), if_pos (by omega), if_pos (by omega), if_pos (by rw [List.length_map, List.length_take]; omega), w64_id (by omega) (by omega), rd_at l i hi, List.take_add_one, List.getElem?_eq_getElem hi, List.map_append]
    rw [show ((i : Int) + 1) = ((i + 1 : Nat) : Int) by omega]
    rfl
theorem counts_f (l : List Int) (hl : l.length ≤ 4611686018427387904) : Ev (fun k => manteletlaw13_counts.f k l) (cntE l) := counts_l0 l hl (min l.length 400) 0 (by omega)
theorem cntE_f1 (l : List Int) : (cntE l).map S35.f1 = l.take 400 := by
  unfold cntE; rw [List.map_map]; exact List.map_id _
theorem cntE_len (l : List Int) : (cntE l).length = min l.length 400 := by unfold cntE; rw [List.length_map, List.length_take]; omega
theorem ok_cntE (l : List Int) (h : ∀ x ∈ l, (Lit.int .u64 x).wf = true) : okE (cntE l) = true := by
  unfold okE
  rw [Bool.and_eq_true, List.all_eq_true]
  refine ⟨decide_eq_true (by rw [cntE_len]; omega), fun x hx => ?_⟩
  unfold cntE at hx
  obtain ⟨c, hc, rfl⟩ := List.mem_map.1 hx
  exact h c (List.mem_of_mem_take hc)
theorem classes_cntE (l : List Int) (h : ∀ x ∈ l, (Lit.int .u64 x).wf = true) : rank_Classes.f (cntE l) = some ((l.take 400).map (cls (l.take 400))) := by
  unfold rank_Classes.f
  rw [if_pos (ok_cntE l h)]
  unfold classesL
  rw [cntE_f1]
  congr 1
  unfold cntE
  rw [List.map_map]; rfl
theorem ints_l0 (a b : List Int) (hl : a.length = b.length) (hb : a.length ≤ 4611686018427387904) : ∀ (d i : Nat), i + d = a.length → a.take i = b.take i → Ev (fun k => manteletref13_Ints.l0 k a b (i : Int)) (decide (a = b))
  | 0, i, hd, he => by
    have e : a = b := by rwa [List.take_of_length_le (by omega), List.take_of_length_le (by omega)] at he
    rw [decide_eq_true e]
    refine Ev.step (fun k => ?_) (Ev.now _)
    simp only [manteletref13_Ints.l0]
    rw [if_neg (by omega)]
  | d + 1, i, hd, he => by
    have hi : i < a.length := by omega
    have hi2 : i < b.length := by omega
    by_cases hq : a[i] = b[i]
    · have ih := ints_l0 a b hl hb d (i + 1) (by omega) (by rw [List.take_add_one, List.take_add_one, he, List.getElem?_eq_getElem hi, List.getElem?_eq_getElem hi2, hq])
      refine Ev.step (fun k => ?_) ih
      simp only [manteletref13_Ints.l0]
      rw [if_pos (by omega), if_pos (by omega), if_pos (by omega), rd_at a i hi, rd_at b i hi2, if_pos hq, w64_id (by omega) (by omega)]
      rfl
    · have e : a ≠ b := fun e => hq (by subst e; rfl)
      rw [decide_eq_false e]
      refine Ev.step (fun k => ?_) (Ev.now _)
      simp only [manteletref13_Ints.l0]
      rw [if_pos (by omega), if_pos (by omega), if_pos (by omega), rd_at a i hi, rd_at b i hi2, if_neg hq]
theorem ints_f (a b : List Int) (hb : a.length ≤ 4611686018427387904) : Ev (fun k => manteletref13_Ints.f k a b) (decide (a = b)) := by
  unfold manteletref13_Ints.f
  by_cases hl : a.length = b.length
  · refine Ev.congr (fun k => ?_) (ints_l0 a b hl hb a.length 0 (by omega) rfl)
    rw [if_pos (by omega)]; rfl
  · have e : a ≠ b := fun e => hl (by rw [e])
    rw [decide_eq_false e]
    refine Ev.congr (fun k => ?_) (Ev.now _)
    rw [if_neg (by omega)]
theorem shown13 : Ev manteletlaw13_shown.f true := by
  unfold manteletlaw13_shown.f
  refine Ev.bind (counts_f [5, 9, 5, 1] (by decide)) ?_
  rw [classes_cntE [5, 9, 5, 1] (by decide)]
  have hc : ((([5, 9, 5, 1] : List Int).take 400).map (cls (([5, 9, 5, 1] : List Int).take 400))) = [1, 0, 1, 2] := by decide
  rw [hc]
  refine Ev.congr (fun k => Option.bind_some _ _) ?_
  refine Ev.bind (ints_f [1, 0, 1, 2] [1, 0, 1, 2] (by decide)) ?_
  have h2 : rank_Prune.f (cntE [5, 9, 5, 1]) 5 = some [ent 5, ent 9, ent 5] := by
    unfold rank_Prune.f
    rw [if_pos (by decide)]
    rfl
  refine Ev.congr (fun k => if_pos (by decide)) ?_
  rw [h2]
  refine Ev.congr (fun k => Option.bind_some _ _) ?_
  refine Ev.congr (fun k => if_pos (by decide)) ?_
  refine Ev.bind (half_f 9 (by decide)) ?_
  have h3 : half 9 = 4 := by
    rw [half_pos (by decide), half_pos (by decide), half_pos (by decide), half_pos (by decide), half_zero]
  rw [h3]
  exact Ev.now _
end Go.Proofs.Ytcikngokiodabaa.K

namespace Go.Proofs.Ytcikngokiodabaa.Pure
open Go.RowKit Go.Proofs.Ytcikngokiodabaa.PRankHalves Go.Proofs.YtcikngokiodabaaW.PrintWords Go.Proofs.YtcikngokiodabaaW.PrintLast Go.Proofs.Ytcikngokiodabaa.K Go.Proofs.Ytcikngokiodabaa.PR13 Go.Proofs.Ytcikngokiodabaa.PSh13
set_option linter.unusedSimpArgs false
set_option linter.unusedVariables false
theorem hv_tail (n : Nat) (hn : n < 4294967296) : Ev (fun k => (rank_Half.f k (n : Int)).bind fun t102 => (if ((t102 == 0) == ((n : Int) == 0)) = true then ((rank_Half.f k (n : Int)).bind fun t103 => (some (decide (t103 ≤ 32)))) else (some false))) true := by
  refine Ev.bind (half_f n (by omega)) ?_
  have hz : ((((half n : Nat) : Int) == 0) == ((n : Int) == 0)) = true := by
    have h := half_eq_zero (a := n)
    by_cases h0 : n = 0
    · subst h0; rw [half_zero]; rfl
    · have h1 : half n ≠ 0 := fun e => h0 (h.1 e)
      rw [beq_eq_false_iff_ne.2 (show ((half n : Nat) : Int) ≠ 0 by omega), beq_eq_false_iff_ne.2 (show (n : Int) ≠ 0 by omega)]; rfl
  refine Ev.congr (fun k => if_pos hz) ?_
  refine Ev.bind (half_f n (by omega)) ?_
  have hb := half_le 32 n (by omega)
  rw [decide_eq_true (show ((half n : Nat) : Int) ≤ 32 by omega)]
  exact Ev.now _
theorem hv_mid (n m : Nat) (hn : n < 4294967296) (hm : m < 4294967296) : Ev (fun k => if (n : Int) > (m : Int) then ((rank_Half.f k (n : Int)).bind fun t102 => (if ((t102 == 0) == ((n : Int) == 0)) = true then ((rank_Half.f k (n : Int)).bind fun t103 => (some (decide (t103 ≤ 32)))) else (some false))) else ((rank_Half.f k (n : Int)).bind fun t104 => ((rank_Half.f k (m : Int)).bind fun t105 => (if t104 ≤ t105 then ((rank_Half.f k (n : Int)).bind fun t106 => (if ((t106 == 0) == ((n : Int) == 0)) = true then ((rank_Half.f k (n : Int)).bind fun t107 => (some (decide (t107 ≤ 32)))) else (some false))) else (some false))))) true := by
  by_cases h : (n : Int) > (m : Int)
  · exact Ev.congr (fun k => if_pos h) (hv_tail n hn)
  · refine Ev.congr (fun k => if_neg h) ?_
    refine Ev.bind (half_f n (by omega)) ?_
    refine Ev.bind (half_f m (by omega)) ?_
    have hmo := half_mono m n (by omega)
    exact Ev.congr (fun k => if_pos (by omega)) (hv_tail n hn)
theorem RankHalves : manteletlaw13_RankHalves.Pure := by
  intro a0 a1 h0 h1
  refine Ev.rounds (g := fun k => manteletlaw13_RankHalves.f k a0 a1) (r := true) ?_
  have h0' : 0 ≤ a0 ∧ a0 ≤ 4294967295 := by simpa [Lit.wf, IntKind.min, IntKind.max, IntKind.bits, IntKind.signed] using h0
  have h1' : 0 ≤ a1 ∧ a1 ≤ 4294967295 := by simpa [Lit.wf, IntKind.min, IntKind.max, IntKind.bits, IntKind.signed] using h1
  obtain ⟨n, rfl⟩ : ∃ n : Nat, a0 = (n : Int) := ⟨a0.toNat, by omega⟩
  obtain ⟨m, rfl⟩ : ∃ m : Nat, a1 = (m : Int) := ⟨a1.toNat, by omega⟩
  have hn : n < 4294967296 := by omega
  have hm : m < 4294967296 := by omega
  have e1 : IntKind.u64.wrap (n : Int) = (n : Int) := u64_id (by omega) (by omega)
  have e2 : IntKind.u64.wrap (m : Int) = (m : Int) := u64_id (by omega) (by omega)
  have e3 : IntKind.u64.wrap (2 * (n : Int)) = ((2 * n : Nat) : Int) := by rw [u64_id (by omega) (by omega)]; omega
  have e4 : IntKind.u64.wrap (((2 * n : Nat) : Int) + 1) = ((2 * n + 1 : Nat) : Int) := by rw [u64_id (by omega) (by omega)]; omega
  unfold manteletlaw13_RankHalves.f
  simp only [e1, e2, e3, e4]
  refine Ev.bind shown13 ?_
  refine Ev.congr (fun k => if_pos rfl) ?_
  by_cases hz : n = 0
  · exact Ev.congr (fun k => if_pos (by omega)) (hv_mid n m hn hm)
  · refine Ev.congr (fun k => if_neg (by omega)) ?_
    refine Ev.bind (half_f (2 * n) (by omega)) ?_
    refine Ev.bind (half_f n (by omega)) ?_
    have hb := half_le 32 n (by omega)
    have ht := half_two hz
    have ho := half_odd hz
    refine Ev.congr (fun k => if_pos (by rw [w64_id (by omega) (by omega)]; omega)) ?_
    refine Ev.bind (half_f (2 * n + 1) (by omega)) ?_
    refine Ev.bind (half_f (2 * n) (by omega)) ?_
    exact Ev.congr (fun k => if_pos (by omega)) (hv_mid n m hn hm)
end Go.Proofs.Ytcikngokiodabaa.Pure

namespace Go.Proofs.Ytcikngokiodabaa.rankHalves
open Go.ChangeShapes Go.WideShapes Go.ChangeAt Go.RowKit
open Go.ChangeMaps (open_string shut_string)
set_option linter.unusedVariables false
theorem own : ownKnob Try.prog.godebug = none := by kernel_rfl
set_option maxRecDepth 100000 in
theorem lifted (os : Os) (started : os.Started) (H : Type) (enc : TypeId × Value → H) :
    ReturnsInHanded {} Try.checked os 6 .any (Rows.rankHalvesSpec.pre6 enc Try.prog Try.f6 Rows.rankHalvesRow.domain false) (Rows.rankHalvesSpec.post enc Try.prog Try.f6 false true false false) := by
  refine returnsInHanded_of_change_sized (C := Try.checked) own started (by kernel_rfl) Try.func6
    (ChangeSpec.witness6 (enc := enc) (C := Try.checked) false ⟨#[], #[.int .u32 0, .int .u32 0], []⟩ 8 (by kernel_rfl) (by kernel_rfl) (by kernel_rfl) (by kernel_rfl)) ?_
  intro W base args ds gs before hval0 hW hcnd hsz0 _
  have hsz : (DataW.weightsEach Try.prog (Try.f6.params.toList ++ Rows.rankHalvesSpec.plain.varTypes Try.prog) (ds ++ gs)).all (· ≤ reachBytes) = true := hsz0
  have hval : ∀ (j : Nat) t v, Try.f6.params[j]? = some t → args[j]? = some v → Value.okWide Try.prog W .any base t v := hval0
  have hW' := hW
  obtain ⟨p, q, hA0, hV, rfl, hfz, hnd⟩ := hW
  have hA : DataW.TrodAll enc Try.prog W 0 (fun _ => true) true Try.f6.params.toList args.toList ds p := hA0
  rw [Try.params6] at hA hval hsz
  obtain ⟨v0, vs0, d0, ds0, p0, q0, hargs, rfl, rfl, h0, r0⟩ := trodAll_cons hA
  obtain ⟨v1, vs1, d1, ds1, p1, q1, rfl, rfl, rfl, h1, r1⟩ := trodAll_cons r0
  obtain ⟨rfl, rfl, rfl⟩ := trodAll_nil r1
  obtain rfl : args = #[v0, v1] := by cases args; simp_all
  obtain ⟨rfl, rfl⟩ := trodVars_none hV
  obtain ⟨a0, rfl, rfl, rfl, w0⟩ := open_int Try.underlying37 (hval 0 37 v0 rfl rfl) h0
  obtain ⟨a1, rfl, rfl, rfl, w1⟩ := open_int Try.underlying37 (hval 1 37 v1 rfl rfl) h1
  clear hA0 hval0 hsz0 hsz
  refine (PRankHalves.manteletlaw13_RankHalves.walk Pure.RankHalves a0 a1 W w0 w1).mono fun e W' ⟨he, bel⟩ => ?_
  subst he
  exact ⟨_, rfl, _, _, _, [], _, [], hW', trodAll_mk1 (shut_bool Try.underlying4 _), (trodAll_cons_mk (shut_int Try.underlying37 w0) (trodAll_cons_mk (shut_int Try.underlying37 w1) trodAll_mk0)), rfl, bel.frame _, fun h => by cases h⟩
theorem over : Rows.rankHalvesRow.holds Try.pinned (OpenSpec.ofChange Rows.rankHalvesSpec) :=
  OpenClaim.holds_of_wide 6 Try.f6 rfl rfl rfl rfl rfl rfl rfl ⟨rfl, rfl, rfl, rfl, rfl⟩ rfl rfl rfl rfl rfl (by kernel_rfl) Try.func6 (by kernel_rfl)
    (of_decide_eq_true (by kernel_rfl)) (by unfold Func.isWrapper; first | (rw [if_pos (by decide +kernel)]; kernel_rfl) | (rw [if_neg (by decide +kernel)]; exact ⟨rfl, rfl⟩))
    (fun os started H enc _ => lifted os started H enc)
theorem proved : Rows.RankHalvesSaid := over
#print axioms proved
end Go.Proofs.Ytcikngokiodabaa.rankHalves
namespace Go.Proofs.Ytcikngokiodabaa
/-- The row, under a short name, for the claim. -/
theorem rankHalves_holds : Rows.RankHalvesSaid := rankHalves.proved
end Go.Proofs.Ytcikngokiodabaa

