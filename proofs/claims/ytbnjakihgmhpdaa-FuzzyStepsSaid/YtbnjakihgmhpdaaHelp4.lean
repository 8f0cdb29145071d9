/- []rune(s), of which only reading is asked. -/
import Derived.Laws.Cover4
import Derived.Laws.IdiomStrings
import Derived.Test.YtbnjakihgmhpdaaProg
import Derived.Below
import Derived.Deep.Draws
import Derived.Deep.AppendLies
import Derived.Maps.AppendAt
import Derived.OwnWalk
import Derived.Laws.BytesArg
import Derived.Laws.MakeOwn
import Derived.Laws.OwnMore
import Derived.Deep.OwnRows
import Derived.Tactics
import Derived.Lib.ConvBytes
import Derived.Laws.Slices
import Derived.WalkKit
import Derived.KernelRfl
import Derived.RowKit3
import Derived.Deep.LoopGhost
import Derived.Deep.QuietTactic
import Derived.BigQuiet
import Derived.WideLaws
import Derived.Deep.DeepCutAuto
import Derived.Deep.CutBlock
import Derived.Deep.RegionHeld3
import Derived.Laws.Rows
import Derived.Lib.AppendStr
import Derived.ArgAppend
import Derived.Laws.IdiomCopy
import Derived.OrdersHeld
import Derived.Laws.BitsLemmas
import Derived.RowKit
import Derived.Lib.OthersKept
import Derived.WalkSmall
import Derived.Deep.RegionLaw
import Derived.BigRegion
import Derived.Test.YtbnjakihgmhpdaaWWords
import Derived.Test.YtbnjakihgmhpdaaWLast
import Derived.Test.YtbnjakihgmhpdaaWTab
import Derived.Test.YtbnjakihgmhpdaaWFour
import Derived.Test.YtbnjakihgmhpdaaWQPut
import Derived.Test.YtbnjakihgmhpdaaWApart
import Derived.Test.YtbnjakihgmhpdaaWArr
import Derived.Test.YtbnjakihgmhpdaaWZeros
import Derived.Test.YtbnjakihgmhpdaaWFoot
import Derived.Test.YtbnjakihgmhpdaaWKept
import Derived.Test.YtbnjakihgmhpdaaWShare
import Derived.Test.YtbnjakihgmhpdaaWN
import Derived.Test.YtbnjakihgmhpdaaWFootNe
import Derived.Test.YtbnjakihgmhpdaaWAt
import Derived.Test.YtbnjakihgmhpdaaWEqStruct
import Derived.Test.YtbnjakihgmhpdaaWRepsOne
import Derived.Test.YtbnjakihgmhpdaaWInv
import Derived.Test.YtbnjakihgmhpdaaWInvWords
import Derived.Test.YtbnjakihgmhpdaaWGuard
import Derived.Test.YtbnjakihgmhpdaaWNEv
import Derived.Test.YtbnjakihgmhpdaaWMore
import Derived.Test.YtbnjakihgmhpdaaInfo
import Derived.Test.YtbnjakihgmhpdaaUtf
import Derived.Test.YtbnjakihgmhpdaaHelp
import Derived.Test.YtbnjakihgmhpdaaHelp2
namespace Go.Proofs.Ytbnjakihgmhpdaa.K
open Go.RowKit Go.Proofs.YtbnjakihgmhpdaaW.PrintWords Go.Proofs.YtbnjakihgmhpdaaW.PrintLast Go.Proofs.YtbnjakihgmhpdaaW.PrintMore Go.Proofs.Ytbnjakihgmhpdaa
attribute [local go_sem] max2_int min2_int max_two min_two max_three min_three max_four min_four
set_option linter.unusedVariables false
set_option linter.unusedSimpArgs false
/-- []rune(s) at a plain step: what comes is read. -/
theorem conv_runes {P : Program} {src dst e : TypeId} (hs : P.underlying src = some .string) (hd : P.underlying dst = some (.slice e)) (he : P.underlying e = some (.int .i32)) {b : Nat} {w0 w : World} (HB : Below b w0 w) (hb : b ≤ w.heap.size)
    (s : ByteArray) (hsz : s.size ≤ 70368744177664) :
    ∃ A c W, (convert src dst (.string s)).run P w = .ok (.slice A (Utf.runesZ s).length c) W ∧ (Utf.runesZ s).length ≤ c ∧ Kd.C (Kd.int .i32) W A (Utf.runesZ s).length (Utf.runesZ s) ∧ Below b w0 W := by
  have hl := runesZ_length s
  have hsz' : (Conv.runesFrom s s.size 0 #[]).size = (Utf.runesZ s).length := by rw [conv_runesZ]; simp
  have hr := run_runes_of_string (P := P) w src dst e s hs hd he (by rw [hsz']; omega)
  rw [hsz', conv_runesZ] at hr
  have hc := grownCap_ge w (Utf.runesZ s).length 0 e
  generalize grownCap w (Utf.runesZ s).length 0 e = cap at hr hc
  refine ⟨_, cap, _, hr, hc, Kd.C_of_reads (d := (0 : Int)) (h1 := fun _ => rfl) ⟨rfl, by omega, fun _ => ⟨_, rfl, fun j hj => ?_⟩⟩, (below_drew HB).alloc hb _⟩
  have ha : (⟨w.heap.size, 0, none⟩ : Addr).add j = ⟨w.heap.size, j, none⟩ := by unfold Addr.add; split <;> simp_all
  have h1 : (w.drew.alloc (.cells (((Utf.runesZ s).map (Value.int .i32)).toArray ++ Array.replicate (cap - (Utf.runesZ s).length) (Value.int .i32 0)) e)).heap[w.heap.size]? = some (.cells (((Utf.runesZ s).map (Value.int .i32)).toArray ++ Array.replicate (cap - (Utf.runesZ s).length) (Value.int .i32 0)) e (0, 0)) := heap_alloc_new w.drew _
  rw [ha, cell_of_row _ _ j _ _ _ h1, Array.getElem?_append_left (by simpa using hj)]
  simp [List.getD_eq_getElem?_getD, List.getElem?_eq_getElem hj]
end Go.Proofs.Ytbnjakihgmhpdaa.K
