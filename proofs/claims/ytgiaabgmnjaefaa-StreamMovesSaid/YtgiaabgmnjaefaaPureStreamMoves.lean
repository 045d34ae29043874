/- StreamMoves: no more than three times as many bytes are moved as came. For every input; no condition. -/
import Derived.Test.YtgiaabgmnjaefaaStatStreamMoves
namespace Go.Proofs.Ytgiaabgmnjaefaa.Pure
open Go.RowKit Go.Proofs.Ytgiaabgmnjaefaa.PStreamMoves Go.Proofs.YtgiaabgmnjaefaaW.PrintWords Go.Proofs.YtgiaabgmnjaefaaW.PrintLast

theorem StreamMoves : Go.Proofs.Ytgiaabgmnjaefaa.StatStreamMoves.Pure := by
  unfold Go.Proofs.Ytgiaabgmnjaefaa.StatStreamMoves.Pure
  intros
  rfl

end Go.Proofs.Ytgiaabgmnjaefaa.Pure
