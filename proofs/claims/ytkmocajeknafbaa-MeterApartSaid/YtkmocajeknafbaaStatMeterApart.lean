/- The one pure statement that is left of the law MeterApart: numbers and lists alone. Laid by a program of this session (xrow.py). No condition. -/
import Derived.Test.YtkmocajeknafbaaPMeterApartx1
namespace Go.Proofs.Ytkmocajeknafbaa.StatMeterApart
open Go.RowKit Go.Proofs.Ytkmocajeknafbaa.PMeterApart Go.Proofs.YtkmocajeknafbaaW.PrintWords Go.Proofs.YtkmocajeknafbaaW.PrintLast
def Pure : Prop := ∀ (a0 : List Int) (a1 : Int) (a2 : Int) (a3 : List (S41)) (a4 : S45), a0.length ≤ maxLen → a0.length * 1 ≤ 140737488351232 → (∀ x ∈ a0, (Lit.int .u8 x).wf = true) → (Lit.int .i64 a1).wf = true → (Lit.int .i64 a2).wf = true → a3.length ≤ maxLen → a3.length * 24 ≤ 140737488351232 → (∀ x ∈ a3, ((Lit.int .i64 x.f0).wf = true ∧ ((Lit.int .u8 x.f1).wf = true ∧ (Lit.int .i64 x.f2).wf = true))) → ((Lit.int .i64 a4.f0).wf = true ∧ (Lit.int .u8 a4.f1).wf = true) → seinelaw05_MeterApart.f a0 a1 a2 a3 (a4.f0) (a4.f1) = some true
end Go.Proofs.Ytkmocajeknafbaa.StatMeterApart
