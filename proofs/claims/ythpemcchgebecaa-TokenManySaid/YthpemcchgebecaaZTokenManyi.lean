/- TokenMany: whatever chunk behind whatever bytes (2000 at most each): it tells at most as many words as it has bytes, and one more; all words of bytes are no more than bytes. (The texts that the proof is made of, one behind the other: part 9 of 11.) -/
import Derived.Test.YthpemcchgebecaaProg
import Derived.Below
import Derived.Deep.Draws
import Derived.Deep.AppendLies
import Derived.Maps.AppendAt
import Derived.OwnWalk
import Derived.Laws.BytesArg
import Derived.Laws.MakeOwn
import Derived.Laws.OwnMore
import Derived.Deep.OwnRows
import Derived.Tactics
import Derived.Lib.ConvBytes
import Derived.Laws.Slices
import Derived.WalkKit
import Derived.KernelRfl
import Derived.RowKit3
import Derived.Deep.LoopGhost
import Derived.Deep.QuietTactic
import Derived.BigQuiet
import Derived.WideLaws
import Derived.Deep.DeepCutAuto
import Derived.Deep.CutBlock
import Derived.Deep.RegionHeld3
import Derived.Laws.Rows
import Derived.Lib.AppendStr
import Derived.ArgAppend
import Derived.Laws.IdiomCopy
import Derived.OrdersHeld
import Derived.Laws.BitsLemmas
import Derived.RowKit
import Derived.Test.YthpemcchgebecaaZTokenManya
import Derived.Test.YthpemcchgebecaaZTokenManyb
import Derived.Test.YthpemcchgebecaaZTokenManyc
import Derived.Test.YthpemcchgebecaaZTokenManyd
import Derived.Test.YthpemcchgebecaaZTokenManye
import Derived.Test.YthpemcchgebecaaZTokenManyf
import Derived.Test.YthpemcchgebecaaZTokenManyg
import Derived.Test.YthpemcchgebecaaZTokenManyh
namespace Go.Proofs.Ythpemcchgebecaa.PTk
open Go.RowKit Go.Proofs.YthpemcchgebecaaW.PrintWords Go.Proofs.YthpemcchgebecaaW.PrintLast Go.Proofs.YthpemcchgebecaaW.PrintMore Go.Proofs.Ythpemcchgebecaa.K Go.Proofs.Ythpemcchgebecaa.PFold Go.Proofs.Ythpemcchgebecaa.PRf04 Go.Proofs.Ythpemcchgebecaa.PWd
attribute [local go_sem] max2_int min2_int max_two min_two max_three min_three max_four min_four   -- for this text's walks alone
set_option linter.unusedVariables false
set_option linter.unusedSimpArgs false

end Go.Proofs.Ythpemcchgebecaa.PTk

namespace Go.Proofs.Ythpemcchgebecaa.PTokenMany
open Go.RowKit Go.Proofs.YthpemcchgebecaaW.PrintWords Go.Proofs.YthpemcchgebecaaW.PrintLast Go.Proofs.YthpemcchgebecaaW.PrintMore Go.Proofs.Ythpemcchgebecaa.K Go.Proofs.Ythpemcchgebecaa.PFold Go.Proofs.Ythpemcchgebecaa.PRf04 Go.Proofs.Ythpemcchgebecaa.PTk Go.Proofs.Ythpemcchgebecaa.PWd
attribute [local go_sem] max2_int min2_int max_two min_two max_three min_three max_four min_four   -- for this text's walks alone
set_option linter.unusedVariables false
set_option linter.unusedSimpArgs false



def errW : Option Int → Value
  | none => .nilIface
  | some c => .iface 0 (.int .i64 c)
theorem errW_none : errW none = .nilIface := rfl
theorem errW_some (c : Int) : errW (some c) = .iface 0 (.int .i64 c) := rfl

end Go.Proofs.Ythpemcchgebecaa.PTokenMany

