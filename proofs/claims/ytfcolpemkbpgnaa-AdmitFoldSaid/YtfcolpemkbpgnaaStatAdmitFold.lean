/- The one pure statement that is left of the law AdmitFold: numbers and lists alone. Laid by a program of this session (xrow.py). No condition. -/
import Derived.Test.YtfcolpemkbpgnaaPAdmitFoldx3
namespace Go.Proofs.Ytfcolpemkbpgnaa.StatAdmitFold
open Go.RowKit Go.Proofs.Ytfcolpemkbpgnaa.PAdmitFold Go.Proofs.YtfcolpemkbpgnaaW.PrintWords Go.Proofs.YtfcolpemkbpgnaaW.PrintLast
def Pure : Prop := ∀ (a0 : List Int) (a1 : List (S26)) (a2 : Bool) (a3 : Bool), a0.length ≤ maxLen → a0.length * 1 ≤ 140737488351232 → (∀ x ∈ a0, (Lit.int .u8 x).wf = true) → a1.length ≤ maxLen → a1.length * 16 ≤ 140737488351232 → (∀ x ∈ a1, ((Lit.int .i64 x.f0).wf = true ∧ (Lit.int .i64 x.f1).wf = true)) → ∃ k, seinelaw22_AdmitFold.f k a0 a1 a2 a3 = some true
end Go.Proofs.Ytfcolpemkbpgnaa.StatAdmitFold
