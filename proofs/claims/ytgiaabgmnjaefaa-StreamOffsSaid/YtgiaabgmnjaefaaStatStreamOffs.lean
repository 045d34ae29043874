/- The one pure statement that is left of the law StreamOffs: numbers and lists alone. Laid by a program of this session (xrow.py). No condition. -/
import Derived.Test.YtgiaabgmnjaefaaPStreamOffsx1
namespace Go.Proofs.Ytgiaabgmnjaefaa.StatStreamOffs
open Go.RowKit Go.Proofs.Ytgiaabgmnjaefaa.PStreamOffs Go.Proofs.YtgiaabgmnjaefaaW.PrintWords Go.Proofs.YtgiaabgmnjaefaaW.PrintLast
def Pure : Prop := ∀ (a0 : List (List Int)) (a1 : Int), a0.length ≤ maxLen → a0.length * 24 ≤ 140737488351232 → (∀ x ∈ a0, (x.length ≤ maxLen ∧ ∀ y1 ∈ x, (Lit.int .u8 y1).wf = true)) → (Lit.int .u16 a1).wf = true → seinelaw20_StreamOffs.f a0 a1 = some true
end Go.Proofs.Ytgiaabgmnjaefaa.StatStreamOffs
