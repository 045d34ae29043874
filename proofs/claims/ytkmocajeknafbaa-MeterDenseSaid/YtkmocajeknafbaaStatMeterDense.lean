/- The one pure statement that is left of the law MeterDense: numbers and lists alone. Laid by a program of this session (xrow.py). No condition. -/
import Derived.Test.YtkmocajeknafbaaPMeterDensex1
namespace Go.Proofs.Ytkmocajeknafbaa.StatMeterDense
open Go.RowKit Go.Proofs.Ytkmocajeknafbaa.PMeterDense Go.Proofs.YtkmocajeknafbaaW.PrintWords Go.Proofs.YtkmocajeknafbaaW.PrintLast
def Pure : Prop := ∀ (a0 : List Int) (a1 : Int) (a2 : List Int) (a3 : List (S45)), a0.length ≤ maxLen → a0.length * 8 ≤ 140737488351232 → (∀ x ∈ a0, (Lit.int .i64 x).wf = true) → (Lit.int .i64 a1).wf = true → a2.length ≤ maxLen → a2.length * 8 ≤ 140737488351232 → (∀ x ∈ a2, (Lit.int .i64 x).wf = true) → a3.length ≤ maxLen → a3.length * 16 ≤ 140737488351232 → (∀ x ∈ a3, ((Lit.int .i64 x.f0).wf = true ∧ (Lit.int .u8 x.f1).wf = true)) → seinelaw05_MeterDense.f a0 a1 a2 a3 = some true
end Go.Proofs.Ytkmocajeknafbaa.StatMeterDense
