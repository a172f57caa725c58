/- Contracts of the Go functions that this claim's law reaches (plain Lean functions with the same answers), written by a program of this session over the kit's print; Lean checks all of it. -/
import Derived.Test.YtmdgahnfekkdbaaPx0
import Derived.Test.YtmdgahnfekkdbaaPx1
import Derived.Test.YtmdgahnfekkdbaaPx2
import Derived.Test.YtmdgahnfekkdbaaPx3
import Derived.Test.YtmdgahnfekkdbaaPx4
import Derived.Test.YtmdgahnfekkdbaaPx5
import Derived.Test.YtmdgahnfekkdbaaPx6
import Derived.Test.YtmdgahnfekkdbaaPx7
import Derived.Test.YtmdgahnfekkdbaaPx8
import Derived.Test.YtmdgahnfekkdbaaPx9
namespace Go.Proofs.Ytmdgahnfekkdbaa.P
open Go.RowKit Go.Proofs.YtmdgahnfekkdbaaW.PrintWords Go.Proofs.YtmdgahnfekkdbaaW.PrintLast Go.Proofs.YtmdgahnfekkdbaaW.PrintMore
attribute [local go_sem] max2_int min2_int max_two min_two max_three min_three max_four min_four   -- for this text's walks alone
set_option linter.unusedVariables false
set_option linter.unusedSimpArgs false

end Go.Proofs.Ytmdgahnfekkdbaa.P
