/- StreamCap: a stream fails just if a line is too long; the first one that is, is told, and all lines ahead of it, and none else. For every input; no condition. -/
import Derived.Test.YtgiaabgmnjaefaaStatStreamCap
namespace Go.Proofs.Ytgiaabgmnjaefaa.Pure
open Go.RowKit Go.Proofs.Ytgiaabgmnjaefaa.PStreamCap Go.Proofs.YtgiaabgmnjaefaaW.PrintWords Go.Proofs.YtgiaabgmnjaefaaW.PrintLast

theorem StreamCap : Go.Proofs.Ytgiaabgmnjaefaa.StatStreamCap.Pure := by
  intro a0 a1 _ _ _ h1
  unfold seinelaw20_StreamCap.f
  exact if_pos h1

end Go.Proofs.Ytgiaabgmnjaefaa.Pure
