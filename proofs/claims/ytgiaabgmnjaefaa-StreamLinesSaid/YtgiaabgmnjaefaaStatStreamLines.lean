/- The one pure statement that is left of the law StreamLines: numbers and lists alone. Laid by a program of this session (xrow.py). No condition. -/
import Derived.Test.YtgiaabgmnjaefaaPStreamLinesx1
namespace Go.Proofs.Ytgiaabgmnjaefaa.StatStreamLines
open Go.RowKit Go.Proofs.Ytgiaabgmnjaefaa.PStreamLines Go.Proofs.YtgiaabgmnjaefaaW.PrintWords Go.Proofs.YtgiaabgmnjaefaaW.PrintLast
def Pure : Prop := ∀ (a0 : List (List Int)), a0.length ≤ maxLen → a0.length * 24 ≤ 140737488351232 → (∀ x ∈ a0, (x.length ≤ maxLen ∧ ∀ y1 ∈ x, (Lit.int .u8 y1).wf = true)) → seinelaw20_StreamLines.f a0 = some true
end Go.Proofs.Ytgiaabgmnjaefaa.StatStreamLines
