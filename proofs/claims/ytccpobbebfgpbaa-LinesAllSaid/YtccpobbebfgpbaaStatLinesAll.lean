/- The one pure statement that is left of the law LinesAll: numbers and lists alone. Laid by a program of this session (xrow.py). No condition. -/
import Derived.Test.YtccpobbebfgpbaaPLinesAllx2
namespace Go.Proofs.Ytccpobbebfgpbaa.StatLinesAll
open Go.RowKit Go.Proofs.Ytccpobbebfgpbaa.PLinesAll Go.Proofs.YtccpobbebfgpbaaW.PrintWords Go.Proofs.YtccpobbebfgpbaaW.PrintLast
def Pure : Prop := ∀ (a0 : List Int) (a1 : Int), a0.length ≤ maxLen → a0.length * 1 ≤ 140737488351232 → (∀ x ∈ a0, (Lit.int .u8 x).wf = true) → (Lit.int .u8 a1).wf = true → seinelaw02_LinesAll.f a0 a1 = some true
end Go.Proofs.Ytccpobbebfgpbaa.StatLinesAll
