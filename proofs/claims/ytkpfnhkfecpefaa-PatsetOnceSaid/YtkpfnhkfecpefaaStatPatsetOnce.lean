/- The one pure statement that is left of the law PatsetOnce: numbers and lists alone. Laid by a program of this session (xrow.py). No condition. -/
import Derived.Test.YtkpfnhkfecpefaaPPatsetOncex1
namespace Go.Proofs.Ytkpfnhkfecpefaa.StatPatsetOnce
open Go.RowKit Go.Proofs.Ytkpfnhkfecpefaa.PPatsetOnce Go.Proofs.YtkpfnhkfecpefaaW.PrintWords Go.Proofs.YtkpfnhkfecpefaaW.PrintLast
def Pure : Prop := ∀ (a0 : List (List Int)), a0.length ≤ maxLen → a0.length * 24 ≤ 140737488351232 → (∀ x ∈ a0, (x.length ≤ maxLen ∧ ∀ y1 ∈ x, (Lit.int .u8 y1).wf = true)) → seinelaw04_PatsetOnce.f a0 = some true
end Go.Proofs.Ytkpfnhkfecpefaa.StatPatsetOnce
