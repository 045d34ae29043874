/- The one pure statement that is left of the law AdmitSides: numbers and lists alone. Laid by a program of this session (xrow.py). No condition. -/
import Derived.Test.YtfcolpemkbpgnaaPAdmitSidesx1
namespace Go.Proofs.Ytfcolpemkbpgnaa.StatAdmitSides
open Go.RowKit Go.Proofs.Ytfcolpemkbpgnaa.PAdmitSides Go.Proofs.YtfcolpemkbpgnaaW.PrintWords Go.Proofs.YtfcolpemkbpgnaaW.PrintLast
def Pure : Prop := ∀ (a0 : List Int) (a1 : List Int) (a2 : List Int), a0.length ≤ maxLen → a0.length * 1 ≤ 140737488351232 → (∀ x ∈ a0, (Lit.int .u8 x).wf = true) → a1.length ≤ maxLen → a1.length * 1 ≤ 140737488351232 → (∀ x ∈ a1, (Lit.int .u8 x).wf = true) → a2.length ≤ maxLen → a2.length * 1 ≤ 140737488351232 → (∀ x ∈ a2, (Lit.int .u8 x).wf = true) → seinelaw22_AdmitSides.f a0 a1 a2 = some true
end Go.Proofs.Ytfcolpemkbpgnaa.StatAdmitSides
