/- Contracts of the Go functions that this claim's law reaches (plain Lean functions with the same answers), written by a program of this session over the kit's print; Lean checks all of it. -/
import Derived.Test.YthehejpagkbnmaaPx0
import Derived.Test.YthehejpagkbnmaaPx1
import Derived.Test.YthehejpagkbnmaaPx2
import Derived.Test.YthehejpagkbnmaaPx3
import Derived.Test.YthehejpagkbnmaaPx4
import Derived.Test.YthehejpagkbnmaaPx5
import Derived.Test.YthehejpagkbnmaaPx6
import Derived.Test.YthehejpagkbnmaaPx7
namespace Go.Proofs.Ythehejpagkbnmaa.P
open Go.RowKit Go.Proofs.YthehejpagkbnmaaW.PrintWords Go.Proofs.YthehejpagkbnmaaW.PrintLast Go.Proofs.YthehejpagkbnmaaW.PrintMore
attribute [local go_sem] max2_int min2_int max_two min_two max_three min_three max_four min_four   -- for this text's walks alone
set_option linter.unusedVariables false
set_option linter.unusedSimpArgs false

end Go.Proofs.Ythehejpagkbnmaa.P
