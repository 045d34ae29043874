/- The one pure statement that is left of the law PairsOrder: numbers and lists alone. Laid by a program of this session (xrow.py). No condition. -/
import Derived.Test.YtnbncpnmdnhakaaPPairsOrderx5
namespace Go.Proofs.Ytnbncpnmdnhakaa.StatPairsOrder
open Go.RowKit Go.Proofs.Ytnbncpnmdnhakaa.PPairsOrder Go.Proofs.YtnbncpnmdnhakaaW.PrintWords Go.Proofs.YtnbncpnmdnhakaaW.PrintLast
def Pure : Prop := ∀ (a0 : S23) (a1 : S23) (a2 : S23), ((Lit.int .i64 a0.f0).wf = true ∧ (Lit.int .i64 a0.f1).wf = true) → ((Lit.int .i64 a1.f0).wf = true ∧ (Lit.int .i64 a1.f1).wf = true) → ((Lit.int .i64 a2.f0).wf = true ∧ (Lit.int .i64 a2.f1).wf = true) → ∃ k, seinelaw03_PairsOrder.f k (a0.f0) (a0.f1) (a1.f0) (a1.f1) (a2.f0) (a2.f1) = some true
end Go.Proofs.Ytnbncpnmdnhakaa.StatPairsOrder
