/- The one pure statement that is left of the law WindowHolds: numbers and lists alone. Laid by a program of this session (xrow.py). No condition. -/
import Derived.Test.YtgaoopcfjbcahaaPWindowHoldsx1
namespace Go.Proofs.Ytgaoopcfjbcahaa.StatWindowHolds
open Go.RowKit Go.Proofs.Ytgaoopcfjbcahaa.PWindowHolds Go.Proofs.YtgaoopcfjbcahaaW.PrintWords Go.Proofs.YtgaoopcfjbcahaaW.PrintLast
def Pure : Prop := ∀ (a0 : List Int) (a1 : List (List Int)), a0.length ≤ maxLen → a0.length * 1 ≤ 140737488351232 → (∀ x ∈ a0, (Lit.int .u8 x).wf = true) → a1.length ≤ maxLen → a1.length * 24 ≤ 140737488351232 → (∀ x ∈ a1, (x.length ≤ maxLen ∧ ∀ y1 ∈ x, (Lit.int .u8 y1).wf = true)) → seinelaw18_WindowHolds.f a0 a1 = some true
end Go.Proofs.Ytgaoopcfjbcahaa.StatWindowHolds
