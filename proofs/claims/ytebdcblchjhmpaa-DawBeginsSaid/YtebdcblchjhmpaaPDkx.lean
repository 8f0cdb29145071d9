-- Written by xprint.py of this repo, over the kit's printer and contracts proved by hand.
import Derived.Test.YtebdcblchjhmpaaPDkx0
import Derived.Test.YtebdcblchjhmpaaPDkx1
import Derived.Test.YtebdcblchjhmpaaPDkx2
import Derived.Test.YtebdcblchjhmpaaPDkx3
namespace Go.Proofs.Ytebdcblchjhmpaa.PDk
open Go.RowKit Go.Proofs.YtebdcblchjhmpaaW.PrintWords Go.Proofs.YtebdcblchjhmpaaW.PrintLast Go.Proofs.YtebdcblchjhmpaaW.PrintMore Go.Proofs.Ytebdcblchjhmpaa.K
attribute [local go_sem] max2_int min2_int max_two min_two max_three min_three max_four min_four   -- for this text's walks alone
set_option linter.unusedVariables false
set_option linter.unusedSimpArgs false

end Go.Proofs.Ytebdcblchjhmpaa.PDk
