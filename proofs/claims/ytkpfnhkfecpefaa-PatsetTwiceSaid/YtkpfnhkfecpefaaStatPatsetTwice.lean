/- The one pure statement that is left of the law PatsetTwice: numbers and lists alone. Laid by a program of this session (xrow.py). No condition. -/
import Derived.Test.YtkpfnhkfecpefaaPPatsetTwicex1
namespace Go.Proofs.Ytkpfnhkfecpefaa.StatPatsetTwice
open Go.RowKit Go.Proofs.Ytkpfnhkfecpefaa.PPatsetTwice Go.Proofs.YtkpfnhkfecpefaaW.PrintWords Go.Proofs.YtkpfnhkfecpefaaW.PrintLast
def Pure : Prop := ∀ (a0 : List Int) (a1 : Bool), a0.length ≤ maxLen → a0.length * 1 ≤ 140737488351232 → (∀ x ∈ a0, (Lit.int .u8 x).wf = true) → seinelaw04_PatsetTwice.f a0 a1 = some true
end Go.Proofs.Ytkpfnhkfecpefaa.StatPatsetTwice
