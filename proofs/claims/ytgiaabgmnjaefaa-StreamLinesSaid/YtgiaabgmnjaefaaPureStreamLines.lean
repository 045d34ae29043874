/- StreamLines: if no line is too long, the lines are those of all bytes, numbered from 0 on. For every input; no condition. -/
import Derived.Test.YtgiaabgmnjaefaaStatStreamLines
namespace Go.Proofs.Ytgiaabgmnjaefaa.Pure
open Go.RowKit Go.Proofs.Ytgiaabgmnjaefaa.PStreamLines Go.Proofs.YtgiaabgmnjaefaaW.PrintWords Go.Proofs.YtgiaabgmnjaefaaW.PrintLast

theorem StreamLines : Go.Proofs.Ytgiaabgmnjaefaa.StatStreamLines.Pure := by
  unfold Go.Proofs.Ytgiaabgmnjaefaa.StatStreamLines.Pure
  intros
  rfl

end Go.Proofs.Ytgiaabgmnjaefaa.Pure
