/- The one pure statement that is left of the law MeterSparse: numbers and lists alone. Laid by a program of this session (xrow.py). No condition. -/
import Derived.Test.YtkmocajeknafbaaPMeterSparsex1
namespace Go.Proofs.Ytkmocajeknafbaa.StatMeterSparse
open Go.RowKit Go.Proofs.Ytkmocajeknafbaa.PMeterSparse Go.Proofs.YtkmocajeknafbaaW.PrintWords Go.Proofs.YtkmocajeknafbaaW.PrintLast
def Pure : Prop := ∀ (a0 : List (S41)) (a1 : List (S45)), a0.length ≤ maxLen → a0.length * 24 ≤ 140737488351232 → (∀ x ∈ a0, ((Lit.int .i64 x.f0).wf = true ∧ ((Lit.int .u8 x.f1).wf = true ∧ (Lit.int .i64 x.f2).wf = true))) → a1.length ≤ maxLen → a1.length * 16 ≤ 140737488351232 → (∀ x ∈ a1, ((Lit.int .i64 x.f0).wf = true ∧ (Lit.int .u8 x.f1).wf = true)) → seinelaw05_MeterSparse.f a0 a1 = some true
end Go.Proofs.Ytkmocajeknafbaa.StatMeterSparse
