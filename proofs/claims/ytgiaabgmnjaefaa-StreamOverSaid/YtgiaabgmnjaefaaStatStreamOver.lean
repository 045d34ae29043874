/- The one pure statement that is left of the law StreamOver: numbers and lists alone. Laid by a program of this session (xrow.py). No condition. -/
import Derived.Test.YtgiaabgmnjaefaaPStreamOverx1
namespace Go.Proofs.Ytgiaabgmnjaefaa.StatStreamOver
open Go.RowKit Go.Proofs.Ytgiaabgmnjaefaa.PStreamOver Go.Proofs.YtgiaabgmnjaefaaW.PrintWords Go.Proofs.YtgiaabgmnjaefaaW.PrintLast
def Pure : Prop := ∀ (a0 : List (List Int)) (a1 : Int) (a2 : List (List Int)), a0.length ≤ maxLen → a0.length * 24 ≤ 140737488351232 → (∀ x ∈ a0, (x.length ≤ maxLen ∧ ∀ y1 ∈ x, (Lit.int .u8 y1).wf = true)) → (Lit.int .i64 a1).wf = true → a2.length ≤ maxLen → a2.length * 24 ≤ 140737488351232 → (∀ x ∈ a2, (x.length ≤ maxLen ∧ ∀ y2 ∈ x, (Lit.int .u8 y2).wf = true)) → seinelaw20_StreamOver.f a0 a1 a2 = some true
end Go.Proofs.Ytgiaabgmnjaefaa.StatStreamOver
