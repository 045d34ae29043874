/- The one pure statement that is left of the law LinesJoin: numbers and lists alone. Laid by a program of this session (xrow.py). No condition. -/
import Derived.Test.YtccpobbebfgpbaaPLinesJoinx2
namespace Go.Proofs.Ytccpobbebfgpbaa.StatLinesJoin
open Go.RowKit Go.Proofs.Ytccpobbebfgpbaa.PLinesJoin Go.Proofs.YtccpobbebfgpbaaW.PrintWords Go.Proofs.YtccpobbebfgpbaaW.PrintLast
def Pure : Prop := ∀ (a0 : List (List Int)), a0.length ≤ maxLen → a0.length * 24 ≤ 140737488351232 → (∀ x ∈ a0, (x.length ≤ maxLen ∧ ∀ y1 ∈ x, (Lit.int .u8 y1).wf = true)) → ∃ k, seinelaw02_LinesJoin.f k a0 = some true
end Go.Proofs.Ytccpobbebfgpbaa.StatLinesJoin
