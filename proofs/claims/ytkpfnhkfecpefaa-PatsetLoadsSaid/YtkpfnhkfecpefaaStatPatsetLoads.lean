/- The one pure statement that is left of the law PatsetLoads: numbers and lists alone. Laid by a program of this session (xrow.py). No condition. -/
import Derived.Test.YtkpfnhkfecpefaaPPatsetLoadsx1
namespace Go.Proofs.Ytkpfnhkfecpefaa.StatPatsetLoads
open Go.RowKit Go.Proofs.Ytkpfnhkfecpefaa.PPatsetLoads Go.Proofs.YtkpfnhkfecpefaaW.PrintWords Go.Proofs.YtkpfnhkfecpefaaW.PrintLast
def Pure : Prop := ∀ (a0 : List Int) (a1 : Bool) (a2 : List Int), a0.length ≤ maxLen → a0.length * 1 ≤ 140737488351232 → (∀ x ∈ a0, (Lit.int .u8 x).wf = true) → a2.length ≤ maxLen → a2.length * 1 ≤ 140737488351232 → (∀ x ∈ a2, (Lit.int .u8 x).wf = true) → seinelaw04_PatsetLoads.f a0 a1 a2 = some true
end Go.Proofs.Ytkpfnhkfecpefaa.StatPatsetLoads
