/- StreamOver: behind its end, or once it failed, a stream reads, tells and changes nothing. For every input; no condition. -/
import Derived.Test.YtgiaabgmnjaefaaStatStreamOver
namespace Go.Proofs.Ytgiaabgmnjaefaa.Pure
open Go.RowKit Go.Proofs.Ytgiaabgmnjaefaa.PStreamOver Go.Proofs.YtgiaabgmnjaefaaW.PrintWords Go.Proofs.YtgiaabgmnjaefaaW.PrintLast

theorem StreamOver : Go.Proofs.Ytgiaabgmnjaefaa.StatStreamOver.Pure := by
  unfold Go.Proofs.Ytgiaabgmnjaefaa.StatStreamOver.Pure
  intros
  rfl

end Go.Proofs.Ytgiaabgmnjaefaa.Pure
