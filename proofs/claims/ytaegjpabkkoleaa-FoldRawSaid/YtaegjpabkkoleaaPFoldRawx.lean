/- Functions of the translation and what they come to: laid by a program of this session (xprint.py) beside contracts proved by hand. No condition. -/
import Derived.Test.YtaegjpabkkoleaaPFoldRawx0
import Derived.Test.YtaegjpabkkoleaaPFoldRawx1
import Derived.Test.YtaegjpabkkoleaaPFoldRawx2
import Derived.Test.YtaegjpabkkoleaaPFoldRawx3
import Derived.Test.YtaegjpabkkoleaaPFoldRawx4
namespace Go.Proofs.Ytaegjpabkkoleaa.PFoldRaw
open Go.RowKit Go.Proofs.YtaegjpabkkoleaaW.PrintWords Go.Proofs.YtaegjpabkkoleaaW.PrintLast Go.Proofs.YtaegjpabkkoleaaW.PrintMore
attribute [local go_sem] max2_int min2_int max_two min_two max_three min_three max_four min_four   -- for this text's walks alone
set_option linter.unusedVariables false
set_option linter.unusedSimpArgs false

end Go.Proofs.Ytaegjpabkkoleaa.PFoldRaw
