/- The one pure statement that is left of the law PairsFits: numbers and lists alone. Laid by a program of this session (xrow.py). No condition. -/
import Derived.Test.YtnbncpnmdnhakaaPPairsFitsx5
namespace Go.Proofs.Ytnbncpnmdnhakaa.StatPairsFits
open Go.RowKit Go.Proofs.Ytnbncpnmdnhakaa.PPairsFits Go.Proofs.YtnbncpnmdnhakaaW.PrintWords Go.Proofs.YtnbncpnmdnhakaaW.PrintLast
def Pure : Prop := ∀ (a0 : List (S23)) (a1 : Int), a0.length ≤ maxLen → a0.length * 16 ≤ 140737488351232 → (∀ x ∈ a0, ((Lit.int .i64 x.f0).wf = true ∧ (Lit.int .i64 x.f1).wf = true)) → (Lit.int .i16 a1).wf = true → ∃ k, seinelaw03_PairsFits.f k a0 a1 = some true
end Go.Proofs.Ytnbncpnmdnhakaa.StatPairsFits
