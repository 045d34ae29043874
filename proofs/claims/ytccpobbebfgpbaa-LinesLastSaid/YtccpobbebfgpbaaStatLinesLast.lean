/- The one pure statement that is left of the law LinesLast: numbers and lists alone. Laid by a program of this session (xrow.py). No condition. -/
import Derived.Test.YtccpobbebfgpbaaPLinesLastx2
namespace Go.Proofs.Ytccpobbebfgpbaa.StatLinesLast
open Go.RowKit Go.Proofs.Ytccpobbebfgpbaa.PLinesLast Go.Proofs.YtccpobbebfgpbaaW.PrintWords Go.Proofs.YtccpobbebfgpbaaW.PrintLast
def Pure : Prop := ∀ (a0 : List Int), a0.length ≤ maxLen → a0.length * 1 ≤ 140737488351232 → (∀ x ∈ a0, (Lit.int .u8 x).wf = true) → seinelaw02_LinesLast.f a0 = some true
end Go.Proofs.Ytccpobbebfgpbaa.StatLinesLast
