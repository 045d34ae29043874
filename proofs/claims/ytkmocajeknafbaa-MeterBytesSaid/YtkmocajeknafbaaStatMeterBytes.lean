/- The one pure statement that is left of the law MeterBytes: numbers and lists alone. Laid by a program of this session (xrow.py). No condition. -/
import Derived.Test.YtkmocajeknafbaaPMeterBytesx1
namespace Go.Proofs.Ytkmocajeknafbaa.StatMeterBytes
open Go.RowKit Go.Proofs.Ytkmocajeknafbaa.PMeterBytes Go.Proofs.YtkmocajeknafbaaW.PrintWords Go.Proofs.YtkmocajeknafbaaW.PrintLast
def Pure : Prop := ∀ (a0 : List Int) (a1 : List Int) (a2 : List Int), a0.length ≤ maxLen → a0.length * 1 ≤ 140737488351232 → (∀ x ∈ a0, (Lit.int .u8 x).wf = true) → a1.length ≤ maxLen → a1.length * 8 ≤ 140737488351232 → (∀ x ∈ a1, (Lit.int .i64 x).wf = true) → a2.length ≤ maxLen → a2.length * 1 ≤ 140737488351232 → (∀ x ∈ a2, (Lit.int .u8 x).wf = true) → seinelaw05_MeterBytes.f a0 a1 a2 = some true
end Go.Proofs.Ytkmocajeknafbaa.StatMeterBytes
