/- Strings made of what came in, read in a world that has drawn. -/
import Derived.Test.YtebdcblchjhmpaaProg
import Derived.Below
import Derived.Deep.Draws
import Derived.Deep.AppendLies
import Derived.Maps.AppendAt
import Derived.OwnWalk
import Derived.Laws.BytesArg
import Derived.Laws.MakeOwn
import Derived.Laws.OwnMore
import Derived.Deep.OwnRows
import Derived.Tactics
import Derived.Lib.ConvBytes
import Derived.Laws.Slices
import Derived.WalkKit
import Derived.KernelRfl
import Derived.RowKit3
import Derived.Deep.LoopGhost
import Derived.Deep.QuietTactic
import Derived.BigQuiet
import Derived.WideLaws
import Derived.Deep.DeepCutAuto
import Derived.Deep.CutBlock
import Derived.Deep.RegionHeld3
import Derived.Laws.Rows
import Derived.Lib.AppendStr
import Derived.ArgAppend
import Derived.Laws.IdiomCopy
import Derived.OrdersHeld
import Derived.Laws.BitsLemmas
import Derived.RowKit
import Derived.Lib.OthersKept
import Derived.WalkSmall
import Derived.Deep.RegionLaw
import Derived.BigRegion
import Derived.Test.YtebdcblchjhmpaaWWords
import Derived.Test.YtebdcblchjhmpaaWLast
import Derived.Test.YtebdcblchjhmpaaWTab
import Derived.Test.YtebdcblchjhmpaaWFour
import Derived.Test.YtebdcblchjhmpaaWQPut
import Derived.Test.YtebdcblchjhmpaaWApart
import Derived.Test.YtebdcblchjhmpaaWArr
import Derived.Test.YtebdcblchjhmpaaWZeros
import Derived.Test.YtebdcblchjhmpaaWFoot
import Derived.Test.YtebdcblchjhmpaaWKept
import Derived.Test.YtebdcblchjhmpaaWShare
import Derived.Test.YtebdcblchjhmpaaWN
import Derived.Test.YtebdcblchjhmpaaWFootNe
import Derived.Test.YtebdcblchjhmpaaWAt
import Derived.Test.YtebdcblchjhmpaaWEqStruct
import Derived.Test.YtebdcblchjhmpaaWRepsOne
import Derived.Test.YtebdcblchjhmpaaWInv
import Derived.Test.YtebdcblchjhmpaaWInvWords
import Derived.Test.YtebdcblchjhmpaaWGuard
import Derived.Test.YtebdcblchjhmpaaWNEv
import Derived.Test.YtebdcblchjhmpaaWMore
import Derived.Test.YtebdcblchjhmpaaInfo
import Derived.Test.YtebdcblchjhmpaaUtf
import Derived.Test.YtebdcblchjhmpaaHelp
import Derived.Test.YtebdcblchjhmpaaHelp2
namespace Go.Proofs.Ytebdcblchjhmpaa.K
open Go.RowKit Go.Proofs.YtebdcblchjhmpaaW.PrintWords Go.Proofs.YtebdcblchjhmpaaW.PrintLast Go.Proofs.YtebdcblchjhmpaaW.PrintMore Go.Proofs.Ytebdcblchjhmpaa
attribute [local go_sem] max2_int min2_int max_two min_two max_three min_three max_four min_four
set_option linter.unusedVariables false
set_option linter.unusedSimpArgs false
section
variable {P : Program} {src dst e : TypeId}
theorem C_runes2 (hs : P.underlying src = some (.slice e)) (he : P.underlying e = some (.int .i32)) (hd : P.underlying dst = some .string) {A : Option Addr} {c : Nat} {l : List Int} {w : World}
    (h : Kd.C (Kd.int .i32) w A l.length l) : (convert src dst (.slice A l.length c)).run P w = .ok (.string (runesBytes l)) w ∧ ∀ n, (convert src dst (.slice A l.length c)).run P (w.drewN n) = .ok (.string (runesBytes l)) (w.drewN n) :=
  ⟨C_runes hs he hd h, fun n => C_runes hs he hd (Kd.C_drewN h n)⟩
theorem C_string2 (hs : P.underlying src = some (.slice e)) (he : P.underlying e = some (.int .u8)) (hd : P.underlying dst = some .string) {A : Option Addr} {c : Nat} {l : List Int} {w : World}
    (h : Kd.C (Kd.int .u8) w A l.length l) : (convert src dst (.slice A l.length c)).run P w = .ok (.string (strOfNums l)) w ∧ ∀ n, (convert src dst (.slice A l.length c)).run P (w.drewN n) = .ok (.string (strOfNums l)) (w.drewN n) :=
  ⟨Kd.C_string hs he hd h, fun n => Kd.C_string hs he hd (Kd.C_drewN h n)⟩
end
section
variable {α : Type} {d : Kd α} {e base t : Nat} {ok : Nat → Prop} {w w1 : World} {v : Value} {xs : List α} {g : Nat} {cs : Array Value}
theorem R_butg (h : Kd.R d e w base ok v xs) (hg : w.heap[g]? = some (.cells cs t (0, 0))) (ht : ∀ q, q ∈ e :: d.E → q ≠ t) (hk : ∀ k, k ≠ g → w1.heap[k]? = w.heap[k]?) : Kd.R d e w1 base ok v xs :=
  Kd.R_mono (Kd.R_step (Kd.R_types h hg ht) (fun k ho _ => hk k ho.2)) (fun _ h => h.1)
theorem Q_butg (h : Kd.Q d e w base ok v xs) (hg : w.heap[g]? = some (.cells cs t (0, 0))) (ht : ∀ q, q ∈ e :: d.E → q ≠ t) (hk : ∀ k, k ≠ g → w1.heap[k]? = w.heap[k]?) : Kd.Q d e w1 base ok v xs :=
  Kd.Q_mono (Kd.Q_step (Kd.Q_types h hg ht) (fun k ho _ => hk k ho.2)) (fun _ h => h.1)
end
theorem far1 {w : World} {g a : Nat} {x : Value} (k : Nat) (hk : k ≠ g) : (w.setCell ⟨g, a, none⟩ x).heap[k]? = w.heap[k]? := Below.heap_setCell _ _ _ k hk
theorem far2 {w : World} {g a b : Nat} {x y : Value} (k : Nat) (hk : k ≠ g) : ((w.setCell ⟨g, a, none⟩ x).setCell ⟨g, b, none⟩ y).heap[k]? = w.heap[k]? := (far1 k hk).trans (far1 k hk)
theorem far3 {w : World} {g a b c : Nat} {x y z : Value} (k : Nat) (hk : k ≠ g) : (((w.setCell ⟨g, a, none⟩ x).setCell ⟨g, b, none⟩ y).setCell ⟨g, c, none⟩ z).heap[k]? = w.heap[k]? := (far1 k hk).trans (far2 k hk)
theorem far4 {w : World} {g a b c d : Nat} {x y z u : Value} (k : Nat) (hk : k ≠ g) : ((((w.setCell ⟨g, a, none⟩ x).setCell ⟨g, b, none⟩ y).setCell ⟨g, c, none⟩ z).setCell ⟨g, d, none⟩ u).heap[k]? = w.heap[k]? := (far1 k hk).trans (far3 k hk)
end Go.Proofs.Ytebdcblchjhmpaa.K
