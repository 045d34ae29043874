/- The one pure statement that is left of the law PatsetOf: numbers and lists alone. Laid by a program of this session (xrow.py). No condition. -/
import Derived.Test.YtkpfnhkfecpefaaPPatsetOfx1
namespace Go.Proofs.Ytkpfnhkfecpefaa.StatPatsetOf
open Go.RowKit Go.Proofs.Ytkpfnhkfecpefaa.PPatsetOf Go.Proofs.YtkpfnhkfecpefaaW.PrintWords Go.Proofs.YtkpfnhkfecpefaaW.PrintLast
def Pure : Prop := ∀ (a0 : List (List Int)) (a1 : List Int), a0.length ≤ maxLen → a0.length * 24 ≤ 140737488351232 → (∀ x ∈ a0, (x.length ≤ maxLen ∧ ∀ y1 ∈ x, (Lit.int .u8 y1).wf = true)) → a1.length ≤ maxLen → a1.length * 1 ≤ 140737488351232 → (∀ x ∈ a1, (Lit.int .u8 x).wf = true) → seinelaw04_PatsetOf.f a0 a1 = some true
end Go.Proofs.Ytkpfnhkfecpefaa.StatPatsetOf
