/- The one pure statement that is left of the law StreamCap: numbers and lists alone. Laid by a program of this session (xrow.py). No condition. -/
import Derived.Test.YtgiaabgmnjaefaaPStreamCapx1
namespace Go.Proofs.Ytgiaabgmnjaefaa.StatStreamCap
open Go.RowKit Go.Proofs.Ytgiaabgmnjaefaa.PStreamCap Go.Proofs.YtgiaabgmnjaefaaW.PrintWords Go.Proofs.YtgiaabgmnjaefaaW.PrintLast
def Pure : Prop := ∀ (a0 : List (List Int)) (a1 : Int), a0.length ≤ maxLen → a0.length * 24 ≤ 140737488351232 → (∀ x ∈ a0, (x.length ≤ maxLen ∧ ∀ y1 ∈ x, (Lit.int .u8 y1).wf = true)) → (Lit.int .u8 a1).wf = true → seinelaw20_StreamCap.f a0 a1 = some true
end Go.Proofs.Ytgiaabgmnjaefaa.StatStreamCap
