/- The walks of the reference of layer 4. -/
import Derived.Test.YtbnjakihgmhpdaaProg
import Derived.Below
import Derived.Deep.Draws
import Derived.Deep.AppendLies
import Derived.Maps.AppendAt
import Derived.OwnWalk
import Derived.Laws.BytesArg
import Derived.Laws.MakeOwn
import Derived.Laws.OwnMore
import Derived.Deep.OwnRows
import Derived.Tactics
import Derived.Lib.ConvBytes
import Derived.Laws.Slices
import Derived.WalkKit
import Derived.KernelRfl
import Derived.RowKit3
import Derived.Deep.LoopGhost
import Derived.Deep.QuietTactic
import Derived.BigQuiet
import Derived.WideLaws
import Derived.Deep.DeepCutAuto
import Derived.Deep.CutBlock
import Derived.Deep.RegionHeld3
import Derived.Laws.Rows
import Derived.Lib.AppendStr
import Derived.ArgAppend
import Derived.Laws.IdiomCopy
import Derived.OrdersHeld
import Derived.Laws.BitsLemmas
import Derived.RowKit
import Derived.Lib.OthersKept
import Derived.WalkSmall
import Derived.Test.YtbnjakihgmhpdaaWWords
import Derived.Test.YtbnjakihgmhpdaaWLast
import Derived.Test.YtbnjakihgmhpdaaWTab
import Derived.Test.YtbnjakihgmhpdaaWFour
import Derived.Test.YtbnjakihgmhpdaaWQPut
import Derived.Test.YtbnjakihgmhpdaaWApart
import Derived.Test.YtbnjakihgmhpdaaWArr
import Derived.Test.YtbnjakihgmhpdaaWZeros
import Derived.Test.YtbnjakihgmhpdaaWFoot
import Derived.Test.YtbnjakihgmhpdaaWKept
import Derived.Test.YtbnjakihgmhpdaaWShare
import Derived.Test.YtbnjakihgmhpdaaWN
import Derived.Test.YtbnjakihgmhpdaaWFootNe
import Derived.Test.YtbnjakihgmhpdaaWAt
import Derived.Test.YtbnjakihgmhpdaaWEqStruct
import Derived.Test.YtbnjakihgmhpdaaWRepsOne
import Derived.Test.YtbnjakihgmhpdaaWInv
import Derived.Test.YtbnjakihgmhpdaaWInvWords
import Derived.Test.YtbnjakihgmhpdaaWGuard
import Derived.Test.YtbnjakihgmhpdaaWNEv
import Derived.Test.YtbnjakihgmhpdaaWMore
import Derived.Test.YtbnjakihgmhpdaaInfo
import Derived.Test.YtbnjakihgmhpdaaUtf
namespace Go.Proofs.Ytbnjakihgmhpdaa.K
open Go.RowKit Go.Proofs.YtbnjakihgmhpdaaW.PrintWords Go.Proofs.YtbnjakihgmhpdaaW.PrintLast Go.Proofs.YtbnjakihgmhpdaaW.PrintMore Go.Proofs.Ytbnjakihgmhpdaa
attribute [local go_sem] max2_int min2_int max_two min_two max_three min_three max_four min_four
set_option linter.unusedVariables false
set_option linter.unusedSimpArgs false
theorem rd_nat (l : List Int) (k : Nat) : rd l (k : Int) = l.getD k 0 := by simp [rd]
/-! ### manteletref04.Same -/
def manteletref04_Same.f (l0 l1 : List Int) : Option Bool := some (decide (l0 = l1))
theorem same_step {l0 l1 : List Int} {k : Nat} (h0 : k < l0.length) (h1 : k < l1.length) (ht : l0.take k = l1.take k) (h : rd l0 k = rd l1 k) : l0.take (k + 1) = l1.take (k + 1) := by
  rw [List.take_succ_eq_append_getElem h0, List.take_succ_eq_append_getElem h1, ht]
  simp [rd, h0, h1] at h
  rw [h]
theorem same_not {l0 l1 : List Int} {k : Nat} (h : rd l0 k ≠ rd l1 k) : l0 ≠ l1 := fun e => h (by rw [e])
set_option maxHeartbeats 1000000 in
set_option maxRecDepth 100000 in
theorem manteletref04_Same.calls (A0 : Option Addr) (c0 : Nat) (l0 : List Int) (A1 : Option Addr) (c1 : Nat) (l1 : List Int) (r : Bool) (w : World) (hr0 : Kd.C (Kd.int .i32) w A0 l0.length l0) (hc0 : l0.length ≤ c0) (hr1 : Kd.C (Kd.int .i32) w A1 l1.length l1) (hc1 : l1.length ≤ c1) (h : manteletref04_Same.f l0 l1 = some r) :
    Calls Try.prog 15 #[.slice A0 l0.length c0, .slice A1 l1.length c1] w fun e w' => e = .returned (.bool r) ∧ Drawn0 w w' := by
  obtain rfl : decide (l0 = l1) = r := Option.some.inj h
  clear h
  have HR0 := Aside0.mk hr0
  have HR1 := Aside0.mk hr1
  have hm := Kd.C_max hr0
  clear hr0 hr1
  by_cases hl : l0.length = l1.length
  · have b1 : ((l0.length : Int) != (l1.length : Int)) = false := by simp [hl]
    have b2 : (l0.length != l1.length) = false := by simp [hl]
    have HL := Aside0.mk hl; clear hl
    go_enter Try.func15, Try.ntmps15
    go_wp2
    clear b1 b2
    go_loopw [5] (fun v w' => ∃ k : Nat, v = .int .i64 k ∧ k ≤ l0.length ∧ Aside0 (l0.take k = l1.take k) ∧ Drawn0 w w') (fun v _ => l0.length - (intOf v).toNat)
    case atStart => exact ⟨0, rfl, by omega, ⟨by simp⟩, Drawn0.refl _⟩
    case round =>
      obtain ⟨k, rfl, hk, ht, ⟨m, rfl⟩⟩ := hrel
      by_cases hlt : k < l0.length
      · have hlt1 : k < l1.length := by have := HL.out; omega
        have hb : decide (k < l0.length) = true := decide_eq_true hlt
        have hb2 : decide ((k : Int) < (l0.length : Int)) = true := decide_eq_true (by omega)
        obtain ⟨a0, e0, hx0⟩ := Kd.at_int HR0.out (k : Int) (by omega) (by omega)
        obtain ⟨a1, e1, hx1⟩ := Kd.at_int HR1.out (k : Int) (by omega) (by omega)
        cases e0; cases e1
        simp only [Int.toNat_natCast] at hx0 hx1
        by_cases he : rd l0 k = rd l1 k
        · have b : ((rd l0 k) != (rd l1 k)) = false := by simp [he]
          have hs := Aside0.mk (same_step hlt hlt1 ht.out he)
          clear he
          go_wp2
          go_quiet (fail)
          go_wp2
          go_roundw
          case rel => exact ⟨k + 1, by go_num, by omega, hs, ⟨⟨_, rfl⟩⟩⟩
          case measure => simp [intOf]; omega
        · have b : ((rd l0 k) != (rd l1 k)) = true := by simp [he]
          have hs := Aside0.mk (same_not he)
          clear he
          go_wp2
          go_quiet (fail)
          go_wp2
          go_ret
          exact ⟨by simp [hs.out], Drawn0.step (Drawn0.step (Drawn0.refl _) _) _⟩
      · have hb : decide (k < l0.length) = false := decide_eq_false hlt
        have hb2 : decide ((k : Int) < (l0.length : Int)) = false := decide_eq_false (by omega)
        go_wp2
        go_ret
        have e : l0 = l1 := by
          have := ht.out
          rwa [List.take_of_length_le (by omega), List.take_of_length_le (by have := HL.out; omega)] at this
        exact ⟨by simp [e], Drawn0.step (Drawn0.refl _) _⟩
  · have b1 : ((l0.length : Int) != (l1.length : Int)) = true := by simp; omega
    have b2 : (l0.length != l1.length) = true := by simp [hl]
    have HL := Aside0.mk hl; clear hl
    go_enter Try.func15, Try.ntmps15
    go_wp2
    go_ret
    have e : decide (l0 = l1) = false := decide_eq_false (fun e => HL.out (by rw [e]))
    exact ⟨by rw [e]; rfl, Drawn0.refl _⟩
end Go.Proofs.Ytbnjakihgmhpdaa.K
