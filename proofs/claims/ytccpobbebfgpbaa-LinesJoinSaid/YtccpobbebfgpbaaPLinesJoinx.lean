/- Functions of the translation and what they come to: laid by a program of this session (xprint.py) beside contracts proved by hand. No condition. -/
import Derived.Test.YtccpobbebfgpbaaPLinesJoinx0
import Derived.Test.YtccpobbebfgpbaaPLinesJoinx1
import Derived.Test.YtccpobbebfgpbaaPLinesJoinx2
namespace Go.Proofs.Ytccpobbebfgpbaa.PLinesJoin
open Go.RowKit Go.Proofs.YtccpobbebfgpbaaW.PrintWords Go.Proofs.YtccpobbebfgpbaaW.PrintLast Go.Proofs.YtccpobbebfgpbaaW.PrintMore
attribute [local go_sem] max2_int min2_int max_two min_two max_three min_three max_four min_four   -- for this text's walks alone
set_option linter.unusedVariables false
set_option linter.unusedSimpArgs false

end Go.Proofs.Ytccpobbebfgpbaa.PLinesJoin
