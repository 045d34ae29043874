/- The one pure statement that is left of the law FoldRaw: numbers and lists alone. Laid by a program of this session (xrow.py). No condition. -/
import Derived.Test.YtaegjpabkkoleaaPFoldRawx4
namespace Go.Proofs.Ytaegjpabkkoleaa.StatFoldRaw
open Go.RowKit Go.Proofs.Ytaegjpabkkoleaa.PFoldRaw Go.Proofs.YtaegjpabkkoleaaW.PrintWords Go.Proofs.YtaegjpabkkoleaaW.PrintLast
def Pure : Prop := ∀ (a0 : S31) (a1 : Int), ((Lit.int .u64 a0.f0).wf = true ∧ ((Lit.int .u64 a0.f1).wf = true ∧ ((Lit.int .u64 a0.f2).wf = true ∧ (Lit.int .u64 a0.f3).wf = true))) → (Lit.int .u8 a1).wf = true → ∃ k, seinelaw01_FoldRaw.f k (a0.f0) (a0.f1) (a0.f2) (a0.f3) a1 = some true
end Go.Proofs.Ytaegjpabkkoleaa.StatFoldRaw
