-- Written by xprint.py of this repo, over the kit's printer and contracts proved by hand.
import Derived.Test.YtbnjakihgmhpdaaPFrx0
import Derived.Test.YtbnjakihgmhpdaaPFrx1
namespace Go.Proofs.Ytbnjakihgmhpdaa.PFr
open Go.RowKit Go.Proofs.YtbnjakihgmhpdaaW.PrintWords Go.Proofs.YtbnjakihgmhpdaaW.PrintLast Go.Proofs.YtbnjakihgmhpdaaW.PrintMore Go.Proofs.Ytbnjakihgmhpdaa.K
attribute [local go_sem] max2_int min2_int max_two min_two max_three min_three max_four min_four   -- for this text's walks alone
set_option linter.unusedVariables false
set_option linter.unusedSimpArgs false

end Go.Proofs.Ytbnjakihgmhpdaa.PFr
