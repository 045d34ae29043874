/- The one pure statement that is left of the law PatsetFolds: numbers and lists alone. Laid by a program of this session (xrow.py). No condition. -/
import Derived.Test.YtkpfnhkfecpefaaPPatsetFoldsx1
namespace Go.Proofs.Ytkpfnhkfecpefaa.StatPatsetFolds
open Go.RowKit Go.Proofs.Ytkpfnhkfecpefaa.PPatsetFolds Go.Proofs.YtkpfnhkfecpefaaW.PrintWords Go.Proofs.YtkpfnhkfecpefaaW.PrintLast
def Pure : Prop := ∀ (a0 : List Int), a0.length ≤ maxLen → a0.length * 1 ≤ 140737488351232 → (∀ x ∈ a0, (Lit.int .u8 x).wf = true) → seinelaw04_PatsetFolds.f a0 = some true
end Go.Proofs.Ytkpfnhkfecpefaa.StatPatsetFolds
