/- Contracts of the Go functions that this claim's law reaches (plain Lean functions with the same answers), written by a program of this session over the kit's print; Lean checks all of it. -/
import Derived.Test.YtlhlhlnfojgfgaaPx0
import Derived.Test.YtlhlhlnfojgfgaaPx1
import Derived.Test.YtlhlhlnfojgfgaaPx2
import Derived.Test.YtlhlhlnfojgfgaaPx3
import Derived.Test.YtlhlhlnfojgfgaaPx4
import Derived.Test.YtlhlhlnfojgfgaaPx5
import Derived.Test.YtlhlhlnfojgfgaaPx6
import Derived.Test.YtlhlhlnfojgfgaaPx7
import Derived.Test.YtlhlhlnfojgfgaaPx8
import Derived.Test.YtlhlhlnfojgfgaaPx9
import Derived.Test.YtlhlhlnfojgfgaaPx10
import Derived.Test.YtlhlhlnfojgfgaaPx11
namespace Go.Proofs.Ytlhlhlnfojgfgaa.P
open Go.RowKit Go.Proofs.YtlhlhlnfojgfgaaW.PrintWords Go.Proofs.YtlhlhlnfojgfgaaW.PrintLast Go.Proofs.YtlhlhlnfojgfgaaW.PrintMore
attribute [local go_sem] max2_int min2_int max_two min_two max_three min_three max_four min_four   -- for this text's walks alone
set_option linter.unusedVariables false
set_option linter.unusedSimpArgs false

end Go.Proofs.Ytlhlhlnfojgfgaa.P
