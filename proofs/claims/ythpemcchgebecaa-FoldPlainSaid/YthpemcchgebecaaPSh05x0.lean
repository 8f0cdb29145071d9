-- Written by xprint.py of this repo, over the kit's printer and contracts proved by hand.
import Derived.Test.YthpemcchgebecaaProg
import Derived.Below
import Derived.Deep.Draws
import Derived.Deep.AppendLies
import Derived.Maps.AppendAt
import Derived.OwnWalk
import Derived.Laws.BytesArg
import Derived.Laws.MakeOwn
import Derived.Laws.OwnMore
import Derived.Deep.OwnRows
import Derived.Tactics
import Derived.Lib.ConvBytes
import Derived.Laws.Slices
import Derived.WalkKit
import Derived.KernelRfl
import Derived.RowKit3
import Derived.Deep.LoopGhost
import Derived.Deep.QuietTactic
import Derived.BigQuiet
import Derived.WideLaws
import Derived.Deep.DeepCutAuto
import Derived.Deep.CutBlock
import Derived.Deep.RegionHeld3
import Derived.Laws.Rows
import Derived.Lib.AppendStr
import Derived.ArgAppend
import Derived.Laws.IdiomCopy
import Derived.OrdersHeld
import Derived.Laws.BitsLemmas
import Derived.RowKit
import Derived.Test.YthpemcchgebecaaInfo
import Derived.Test.YthpemcchgebecaaUtf
import Derived.Test.YthpemcchgebecaaHelp
import Derived.Test.YthpemcchgebecaaHelp2
import Derived.Test.YthpemcchgebecaaUtfE
import Derived.Test.YthpemcchgebecaaPFoldx
import Derived.Test.YthpemcchgebecaaFoldK
import Derived.Test.YthpemcchgebecaaFoldP
import Derived.Test.YthpemcchgebecaaFoldB
import Derived.Test.YthpemcchgebecaaFoldT
import Derived.Test.YthpemcchgebecaaWWords
import Derived.Test.YthpemcchgebecaaWLast
import Derived.Test.YthpemcchgebecaaWTab
import Derived.Test.YthpemcchgebecaaWFour
import Derived.Test.YthpemcchgebecaaWQPut
import Derived.Test.YthpemcchgebecaaWApart
import Derived.Test.YthpemcchgebecaaWArr
import Derived.Test.YthpemcchgebecaaWZeros
import Derived.Test.YthpemcchgebecaaWFoot
import Derived.Test.YthpemcchgebecaaWKept
import Derived.Test.YthpemcchgebecaaWShare
import Derived.Test.YthpemcchgebecaaWN
import Derived.Test.YthpemcchgebecaaWFootNe
import Derived.Test.YthpemcchgebecaaWAt
import Derived.Test.YthpemcchgebecaaWEqStruct
import Derived.Test.YthpemcchgebecaaWRepsOne
import Derived.Test.YthpemcchgebecaaWInv
import Derived.Test.YthpemcchgebecaaWInvWords
import Derived.Test.YthpemcchgebecaaWGuard
import Derived.Test.YthpemcchgebecaaWNEv
import Derived.Test.YthpemcchgebecaaWMore
namespace Go.Proofs.Ythpemcchgebecaa.PSh05
open Go.RowKit Go.Proofs.YthpemcchgebecaaW.PrintWords Go.Proofs.YthpemcchgebecaaW.PrintLast Go.Proofs.YthpemcchgebecaaW.PrintMore Go.Proofs.Ythpemcchgebecaa.K Go.Proofs.Ythpemcchgebecaa.PFold
attribute [local go_sem] max2_int min2_int max_two min_two max_three min_three max_four min_four   -- for this text's walks alone
set_option linter.unusedVariables false
set_option linter.unusedSimpArgs false



def errW : Option Int → Value
  | none => .nilIface
  | some c => .iface 0 (.int .i64 c)
theorem errW_none : errW none = .nilIface := rfl
theorem errW_some (c : Int) : errW (some c) = .iface 0 (.int .i64 c) := rfl

-- the values' own types

end Go.Proofs.Ythpemcchgebecaa.PSh05
