/- Functions of the translation and what they come to: laid by a program of this session (xprint.py) beside contracts proved by hand. No condition. -/
import Derived.Test.YtnbncpnmdnhakaaPPairsFitsx0
import Derived.Test.YtnbncpnmdnhakaaPPairsFitsx1
import Derived.Test.YtnbncpnmdnhakaaPPairsFitsx2
import Derived.Test.YtnbncpnmdnhakaaPPairsFitsx3
import Derived.Test.YtnbncpnmdnhakaaPPairsFitsx4
import Derived.Test.YtnbncpnmdnhakaaPPairsFitsx5
namespace Go.Proofs.Ytnbncpnmdnhakaa.PPairsFits
open Go.RowKit Go.Proofs.YtnbncpnmdnhakaaW.PrintWords Go.Proofs.YtnbncpnmdnhakaaW.PrintLast Go.Proofs.YtnbncpnmdnhakaaW.PrintMore
attribute [local go_sem] max2_int min2_int max_two min_two max_three min_three max_four min_four   -- for this text's walks alone
set_option linter.unusedVariables false
set_option linter.unusedSimpArgs false

end Go.Proofs.Ytnbncpnmdnhakaa.PPairsFits
