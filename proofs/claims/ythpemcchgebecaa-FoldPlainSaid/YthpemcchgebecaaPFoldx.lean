-- Written by xprint.py of this repo, over the kit's printer and contracts proved by hand.
import Derived.Test.YthpemcchgebecaaPFoldx0
import Derived.Test.YthpemcchgebecaaPFoldx1
import Derived.Test.YthpemcchgebecaaPFoldx2
import Derived.Test.YthpemcchgebecaaPFoldx3
import Derived.Test.YthpemcchgebecaaPFoldx4
import Derived.Test.YthpemcchgebecaaPFoldx5
namespace Go.Proofs.Ythpemcchgebecaa.PFold
open Go.RowKit Go.Proofs.YthpemcchgebecaaW.PrintWords Go.Proofs.YthpemcchgebecaaW.PrintLast Go.Proofs.YthpemcchgebecaaW.PrintMore Go.Proofs.Ythpemcchgebecaa.K
attribute [local go_sem] max2_int min2_int max_two min_two max_three min_three max_four min_four   -- for this text's walks alone
set_option linter.unusedVariables false
set_option linter.unusedSimpArgs false

end Go.Proofs.Ythpemcchgebecaa.PFold
