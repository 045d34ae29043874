/- The one pure statement that is left of the law WindowOnce: numbers and lists alone. Laid by a program of this session (xrow.py). No condition. -/
import Derived.Test.YtgaoopcfjbcahaaPWindowOncex1
namespace Go.Proofs.Ytgaoopcfjbcahaa.StatWindowOnce
open Go.RowKit Go.Proofs.Ytgaoopcfjbcahaa.PWindowOnce Go.Proofs.YtgaoopcfjbcahaaW.PrintWords Go.Proofs.YtgaoopcfjbcahaaW.PrintLast
def Pure : Prop := ∀ (a0 : List Int) (a1 : List Int), a0.length ≤ maxLen → a0.length * 1 ≤ 140737488351232 → (∀ x ∈ a0, (Lit.int .u8 x).wf = true) → a1.length ≤ maxLen → a1.length * 1 ≤ 140737488351232 → (∀ x ∈ a1, (Lit.int .u8 x).wf = true) → seinelaw18_WindowOnce.f a0 a1 = some true
end Go.Proofs.Ytgaoopcfjbcahaa.StatWindowOnce
