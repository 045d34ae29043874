/- The one pure statement that is left of the law StreamPlays: numbers and lists alone. Laid by a program of this session (xrow.py). No condition. -/
import Derived.Test.YtgiaabgmnjaefaaPStreamPlaysx1
namespace Go.Proofs.Ytgiaabgmnjaefaa.StatStreamPlays
open Go.RowKit Go.Proofs.Ytgiaabgmnjaefaa.PStreamPlays Go.Proofs.YtgiaabgmnjaefaaW.PrintWords Go.Proofs.YtgiaabgmnjaefaaW.PrintLast
def Pure : Prop := ∀ (a0 : List (List Int)) (a1 : Int) (a2 : Bool), a0.length ≤ maxLen → a0.length * 24 ≤ 140737488351232 → (∀ x ∈ a0, (x.length ≤ maxLen ∧ ∀ y1 ∈ x, (Lit.int .u8 y1).wf = true)) → (Lit.int .i64 a1).wf = true → seinelaw20_StreamPlays.f a0 a1 a2 = some true
end Go.Proofs.Ytgiaabgmnjaefaa.StatStreamPlays
