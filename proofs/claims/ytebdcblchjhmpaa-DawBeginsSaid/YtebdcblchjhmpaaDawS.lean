/- Go's order of strings is that of their bytes' numbers. -/
import Derived.Test.YtebdcblchjhmpaaProg
import Derived.Below
import Derived.Deep.Draws
import Derived.Deep.AppendLies
import Derived.Maps.AppendAt
import Derived.OwnWalk
import Derived.Laws.BytesArg
import Derived.Laws.MakeOwn
import Derived.Laws.OwnMore
import Derived.Deep.OwnRows
import Derived.Tactics
import Derived.Lib.ConvBytes
import Derived.Laws.Slices
import Derived.WalkKit
import Derived.KernelRfl
import Derived.RowKit3
import Derived.Deep.LoopGhost
import Derived.Deep.QuietTactic
import Derived.BigQuiet
import Derived.WideLaws
import Derived.Deep.DeepCutAuto
import Derived.Deep.CutBlock
import Derived.Deep.RegionHeld3
import Derived.Laws.Rows
import Derived.Lib.AppendStr
import Derived.ArgAppend
import Derived.Laws.IdiomCopy
import Derived.OrdersHeld
import Derived.Laws.BitsLemmas
import Derived.RowKit
import Derived.Lib.OthersKept
import Derived.WalkSmall
import Derived.Deep.RegionLaw
import Derived.BigRegion
import Derived.Test.YtebdcblchjhmpaaWWords
import Derived.Test.YtebdcblchjhmpaaWLast
import Derived.Test.YtebdcblchjhmpaaWTab
import Derived.Test.YtebdcblchjhmpaaWFour
import Derived.Test.YtebdcblchjhmpaaWQPut
import Derived.Test.YtebdcblchjhmpaaWApart
import Derived.Test.YtebdcblchjhmpaaWArr
import Derived.Test.YtebdcblchjhmpaaWZeros
import Derived.Test.YtebdcblchjhmpaaWFoot
import Derived.Test.YtebdcblchjhmpaaWKept
import Derived.Test.YtebdcblchjhmpaaWShare
import Derived.Test.YtebdcblchjhmpaaWN
import Derived.Test.YtebdcblchjhmpaaWFootNe
import Derived.Test.YtebdcblchjhmpaaWAt
import Derived.Test.YtebdcblchjhmpaaWEqStruct
import Derived.Test.YtebdcblchjhmpaaWRepsOne
import Derived.Test.YtebdcblchjhmpaaWInv
import Derived.Test.YtebdcblchjhmpaaWInvWords
import Derived.Test.YtebdcblchjhmpaaWGuard
import Derived.Test.YtebdcblchjhmpaaWNEv
import Derived.Test.YtebdcblchjhmpaaWMore
import Derived.Test.YtebdcblchjhmpaaInfo
import Derived.Test.YtebdcblchjhmpaaUtf
namespace Go.Proofs.Ytebdcblchjhmpaa.K
open Go.RowKit Go.Proofs.YtebdcblchjhmpaaW.PrintWords Go.Proofs.YtebdcblchjhmpaaW.PrintLast Go.Proofs.YtebdcblchjhmpaaW.PrintMore Go.Proofs.Ytebdcblchjhmpaa
attribute [local go_sem] max2_int min2_int max_two min_two max_three min_three max_four min_four
set_option linter.unusedVariables false
set_option linter.unusedSimpArgs false
theorem less_nats : ∀ (a b : List UInt8), Op.bytesLess a b = decide (a.map (fun x => x.toNat) < b.map (fun x => x.toNat))
  | [], [] => by simp [Op.bytesLess]
  | [], b :: t => by simp [Op.bytesLess]
  | a :: s, [] => by simp [Op.bytesLess]
  | a :: s, b :: t => by
    unfold Op.bytesLess
    rw [less_nats s t, List.map_cons, List.map_cons]
    have h : (a.toNat :: s.map (fun x => x.toNat) < b.toNat :: t.map (fun x => x.toNat)) ↔ a.toNat < b.toNat ∨ a.toNat = b.toNat ∧ s.map (fun x => x.toNat) < t.map (fun x => x.toNat) := List.cons_lt_cons_iff
    have e1 : (a < b) ↔ a.toNat < b.toNat := UInt8.lt_iff_toNat_lt
    have e2 : (a == b) = decide (a.toNat = b.toNat) := by
      by_cases hab : a = b
      · simp [hab]
      · have : a.toNat ≠ b.toNat := fun k => hab (UInt8.toNat_inj.1 k)
        simp [hab, this]
    rw [e2]
    by_cases h1 : a.toNat < b.toNat
    · simp [e1, h1, h]
    · by_cases h2 : a.toNat = b.toNat <;> simp [e1, h1, h2, h]
theorem less_str (s t : ByteArray) : Op.bytesLess s.toList t.toList = decide (Utf.nats s < Utf.nats t) := by
  rw [less_nats]
  have e : ∀ s : ByteArray, s.toList.map (fun x => x.toNat) = Utf.nats s := by
    intro s
    have := Utf.toList_nats s s.toList
    simp at this
    exact this.symm
  rw [e, e]
theorem nats_inj {s t : ByteArray} (h : Utf.nats s = Utf.nats t) : s = t := by
  have h2 : s.data.toList = t.data.toList := by
    unfold Utf.nats at h
    exact (List.map_inj_right (fun x y hxy => UInt8.toNat_inj.1 hxy)).1 h
  exact ByteArray.ext (Array.toList_inj.1 h2)
end Go.Proofs.Ytebdcblchjhmpaa.K
