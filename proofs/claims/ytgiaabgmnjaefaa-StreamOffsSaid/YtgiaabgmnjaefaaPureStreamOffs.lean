/- StreamOffs: each line that is told stands in all bytes where it is told to begin, behind the newline of the one ahead. For every input; no condition. -/
import Derived.Test.YtgiaabgmnjaefaaStatStreamOffs
namespace Go.Proofs.Ytgiaabgmnjaefaa.Pure
open Go.RowKit Go.Proofs.Ytgiaabgmnjaefaa.PStreamOffs Go.Proofs.YtgiaabgmnjaefaaW.PrintWords Go.Proofs.YtgiaabgmnjaefaaW.PrintLast

theorem StreamOffs : Go.Proofs.Ytgiaabgmnjaefaa.StatStreamOffs.Pure := by
  intro a0 a1 _ _ _ h1
  unfold seinelaw20_StreamOffs.f
  exact if_pos h1

end Go.Proofs.Ytgiaabgmnjaefaa.Pure
