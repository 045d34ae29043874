/- The one pure statement that is left of the law WindowPlays: numbers and lists alone. Laid by a program of this session (xrow.py). No condition. -/
import Derived.Test.YtgaoopcfjbcahaaPWindowPlaysx2
namespace Go.Proofs.Ytgaoopcfjbcahaa.StatWindowPlays
open Go.RowKit Go.Proofs.Ytgaoopcfjbcahaa.PWindowPlays Go.Proofs.YtgaoopcfjbcahaaW.PrintWords Go.Proofs.YtgaoopcfjbcahaaW.PrintLast
def Pure : Prop := ∀ (a0 : List (S33)), a0.length ≤ maxLen → a0.length * 32 ≤ 140737488351232 → (∀ x ∈ a0, (True ∧ (x.f1.length ≤ maxLen ∧ ∀ y1 ∈ x.f1, (Lit.int .u8 y1).wf = true))) → seinelaw18_WindowPlays.f a0 = some true
end Go.Proofs.Ytgaoopcfjbcahaa.StatWindowPlays
