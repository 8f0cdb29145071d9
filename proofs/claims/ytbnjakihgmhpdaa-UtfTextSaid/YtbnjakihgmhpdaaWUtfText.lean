/- The walk of UtfText. -/
import Derived.Test.YtbnjakihgmhpdaaProg
import Derived.Below
import Derived.Deep.Draws
import Derived.Deep.AppendLies
import Derived.Maps.AppendAt
import Derived.OwnWalk
import Derived.Laws.BytesArg
import Derived.Laws.MakeOwn
import Derived.Laws.OwnMore
import Derived.Deep.OwnRows
import Derived.Tactics
import Derived.Lib.ConvBytes
import Derived.Laws.Slices
import Derived.WalkKit
import Derived.KernelRfl
import Derived.RowKit3
import Derived.Deep.LoopGhost
import Derived.Deep.QuietTactic
import Derived.BigQuiet
import Derived.WideLaws
import Derived.Deep.DeepCutAuto
import Derived.Deep.CutBlock
import Derived.Deep.RegionHeld3
import Derived.Laws.Rows
import Derived.Lib.AppendStr
import Derived.ArgAppend
import Derived.Laws.IdiomCopy
import Derived.OrdersHeld
import Derived.Laws.BitsLemmas
import Derived.RowKit
import Derived.Lib.OthersKept
import Derived.WalkSmall
import Derived.Deep.RegionLaw
import Derived.BigRegion
import Derived.Test.YtbnjakihgmhpdaaWWords
import Derived.Test.YtbnjakihgmhpdaaWLast
import Derived.Test.YtbnjakihgmhpdaaWTab
import Derived.Test.YtbnjakihgmhpdaaWFour
import Derived.Test.YtbnjakihgmhpdaaWQPut
import Derived.Test.YtbnjakihgmhpdaaWApart
import Derived.Test.YtbnjakihgmhpdaaWArr
import Derived.Test.YtbnjakihgmhpdaaWZeros
import Derived.Test.YtbnjakihgmhpdaaWFoot
import Derived.Test.YtbnjakihgmhpdaaWKept
import Derived.Test.YtbnjakihgmhpdaaWShare
import Derived.Test.YtbnjakihgmhpdaaWN
import Derived.Test.YtbnjakihgmhpdaaWFootNe
import Derived.Test.YtbnjakihgmhpdaaWAt
import Derived.Test.YtbnjakihgmhpdaaWEqStruct
import Derived.Test.YtbnjakihgmhpdaaWRepsOne
import Derived.Test.YtbnjakihgmhpdaaWInv
import Derived.Test.YtbnjakihgmhpdaaWInvWords
import Derived.Test.YtbnjakihgmhpdaaWGuard
import Derived.Test.YtbnjakihgmhpdaaWNEv
import Derived.Test.YtbnjakihgmhpdaaWMore
import Derived.Test.YtbnjakihgmhpdaaInfo
import Derived.Test.YtbnjakihgmhpdaaUtf
import Derived.Test.YtbnjakihgmhpdaaHelp
import Derived.Test.YtbnjakihgmhpdaaHelp2
import Derived.Test.YtbnjakihgmhpdaaUtfK
import Derived.Test.YtbnjakihgmhpdaaRef04K
import Derived.Test.YtbnjakihgmhpdaaUtfL
import Derived.Test.YtbnjakihgmhpdaaUtfE
import Derived.Test.YtbnjakihgmhpdaaUtfT
namespace Go.Proofs.Ytbnjakihgmhpdaa.K
open Go.RowKit Go.Proofs.YtbnjakihgmhpdaaW.PrintWords Go.Proofs.YtbnjakihgmhpdaaW.PrintLast Go.Proofs.YtbnjakihgmhpdaaW.PrintMore Go.Proofs.Ytbnjakihgmhpdaa
attribute [local go_sem] max2_int min2_int max_two min_two max_three min_three max_four min_four
set_option linter.unusedVariables false
set_option linter.unusedSimpArgs false
open Go.Proofs.Ytbnjakihgmhpdaa.PRf04
set_option maxHeartbeats 4000000 in
set_option maxRecDepth 100000 in
theorem UtfText_walk (a0 : Option Addr) (len0 cap0 : Nat) (z0 : List Int) (w : World) (w0 : (a0 = none ∧ len0 = 0 ∧ cap0 = 0 ∧ z0 = []) ∨ ∃ x, a0 = some x ∧ len0 ≤ cap0 ∧ cap0 ≤ maxLen ∧ z0.length = cap0 ∧ (∀ i, i < z0.length → w.cell? (x.add i) = some (.int .i32 (z0.getD i 0))) ∧ ∀ n ∈ z0, (Lit.int .i32 n).wf = true) (y0 : len0 * 4 ≤ 140737488351232) :
    Calls Try.prog 8 #[.slice a0 len0 cap0] w fun e w' => e = .returned (.bool true) ∧ Below w.heap.size w w' := by
  obtain ⟨l0, rfl, hr0_, hm0, hw0, hc0⟩ := ReadsInt.ofRowC w0
  have hC0 : Kd.C (Kd.int .i32) w a0 l0.length l0 := Kd.C_of_reads (d := (0 : Int)) (h1 := fun _ => rfl) hr0_
  clear hr0_ w0
  have hsh := Aside0.mk shown04
  have HC0 := Aside0.mk hC0
  clear hC0 hw0 y0
  by_cases hbig : 2000 < l0.length
  · have t1 : decide (2000 < l0.length) = true := decide_eq_true hbig
    have t2 : decide ((2000 : Int) < (l0.length : Int)) = true := decide_eq_true (by omega)
    go_enter Try.func8, Try.ntmps8
    go_wp2_with (go_at_call 13; (with_reducible refine (manteletlaw04_shown.calls true w hsh.out).mono ?_))
    (first | rintro e w' rfl hb1 | rintro e w' ⟨rfl, hb1⟩)
    go_wp2
    go_ret
    exact ⟨rfl, hb1⟩
  · have t1 : decide (2000 < l0.length) = false := decide_eq_false hbig
    have t2 : decide ((2000 : Int) < (l0.length : Int)) = false := decide_eq_false (by omega)
    go_enter Try.func8, Try.ntmps8
    go_wp2_with (go_at_call 13; (with_reducible refine (manteletlaw04_shown.calls true w hsh.out).mono ?_))
    (first | rintro e w' rfl hb1 | rintro e w' ⟨rfl, hb1⟩)
    obtain ⟨s, hs⟩ : ∃ s, s = runesBytes l0 := ⟨_, rfl⟩
    have hss : s.size ≤ 8000 := by have := Utf.size_bytes l0; rw [hs]; omega
    have hcv1 := C_runes (P := Try.prog) (A := a0) (c := cap0) Try.underlying25 Try.underlying21 Try.underlying9 (Kd.C_below HC0.out hb1)
    rw [← hs] at hcv1
    obtain ⟨A1, c1, W1, hcv2, hc1, hC1, hB1⟩ := conv_bytes (P := Try.prog) Try.underlying9 Try.underlying22 Try.underlying5 hb1 hb1.size s (by omega)
    have hbl := bytesZ_length s
    have hall : Aside0 (utf_All.f (bytesZ s) = some (l0.map Utf.sane)) := ⟨by unfold utf_All.f; rw [if_pos (by omega), str_bytesZ, hs, Utf.runesZ_bytes]⟩
    have hfeed : Aside0 (utf_Feed.f [] (bytesZ s) = some (l0.map Utf.sane, [])) := ⟨by unfold utf_Feed.f; rw [if_pos (by simp; omega), List.nil_append, hs, feedZ_bytes]⟩
    have hml : (l0.map Utf.sane).length = l0.length := List.length_map ..
    have hbm : runesBytes (l0.map Utf.sane) = s := by rw [bytes_sane, hs]
    obtain ⟨L, hL⟩ : ∃ L, L = l0.map Utf.sane := ⟨_, rfl⟩
    rw [← hL] at hall hfeed hml hbm
    obtain ⟨B, hB⟩ : ∃ B, B = bytesZ s := ⟨_, rfl⟩
    rw [← hB] at hall hfeed hcv2 hc1 hC1 hbl
    have HBZ := Aside0.mk hB
    have HBM := Aside0.mk hbm
    have HML := Aside0.mk hml
    have HB1 := Aside0.mk hB1
    have HC1 := Aside0.mk hC1
    have Hc1 := Aside0.mk hc1
    have HSS := Aside0.mk hss
    clear hL hs hss hB hbm hml hB1 hC1 hc1 hbl
    go_wp2_with (go_at_call 19; (with_reducible refine (utf_All.calls _ _ B L _ HC1.out Hc1.out hall.out).mono ?_))
    rintro e w2 ⟨v1, rfl, hR1, hb2⟩
    have hB2 := HB1.out.trans (hb2.mono HB1.out.size)
    obtain ⟨A2, c2, W2, hcv3, hc2, hC2, hB3⟩ := conv_bytes (P := Try.prog) Try.underlying9 Try.underlying22 Try.underlying5 (Below.refl w2.heap.size w2) (Nat.le_refl _) s (by have := HSS.out; omega)
    rw [← HBZ.out] at hcv3 hc2 hC2
    have HB3 := Aside0.mk hB3
    have HC2 := Aside0.mk hC2
    have Hc2 := Aside0.mk hc2
    have HR1 := Aside0.mk (Kd.R_below hR1 hB3)
    have HB2 := Aside0.mk (hB2.trans (hB3.mono hB2.size))
    clear hB3 hC2 hc2 hR1 hB2 hcv1 hcv2
    go_wp2_with (go_at_call 14; (with_reducible refine (utf_Feed.calls0 _ _ B L [] _ HC2.out Hc2.out hfeed.out).mono ?_))
    rintro e w3 ⟨v3, v4, rfl, hR3, hQ4, hb3⟩
    have hR1 := Kd.R_below HR1.out hb3
    have hB4 := Aside0.mk (HB2.out.trans (hb3.mono HB2.out.size))
    obtain ⟨A4, c4, rfl, hc4⟩ := Kd.Q_slice hQ4
    obtain ⟨A1', c1', rfl⟩ := Kd.R_slice hR1
    obtain ⟨A3', c3', rfl⟩ := Kd.R_slice hR3
    have hcv5 := own_runes (P := Try.prog) Try.underlying25 Try.underlying21 Try.underlying9 hR1
    rw [HBM.out] at hcv5
    have HR1' := Aside0.mk (Kd.R_reads' hR1)
    have HR3' := Aside0.mk (Kd.R_reads' hR3)
    have hsame : Aside0 (manteletref04_Same.f L L = some true) := ⟨by simp [manteletref04_Same.f]⟩
    have hseq : (s.toList == s.toList) = true := by simp
    have hleq : ((L.length : Int) == (l0.length : Int)) = true := by rw [HML.out]; simp
    have hleq2 : decide ((L.length : Int) = (l0.length : Int)) = true := decide_eq_true (by rw [HML.out])
    have hleq3 : (L.length == l0.length) = true := by rw [HML.out]; simp
    have hleq4 : decide (L.length = l0.length) = true := decide_eq_true HML.out
    clear hR1 hR3 hQ4 hb3 hb2 hcv3
    go_wp2_with (go_at_call 15; (with_reducible refine (manteletref04_Same.calls _ _ L _ _ L true _ HR1'.out.2.2 HR1'.out.2.1 HR3'.out.2.2 HR3'.out.2.1 hsame.out).mono ?_))
    rintro e w' ⟨rfl, ⟨nd, rfl⟩⟩
    go_wp2
    go_ret
    exact ⟨rfl, pw_below_drewN hB4.out _⟩
end Go.Proofs.Ytbnjakihgmhpdaa.K
