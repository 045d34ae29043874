/- StreamPieces: however bytes are cut into chunks, the lines are the same, and so is what is wrong; each byte is read once. For every input; no condition. -/
import Derived.Test.YtgiaabgmnjaefaaStatStreamPieces
namespace Go.Proofs.Ytgiaabgmnjaefaa.Pure
open Go.RowKit Go.Proofs.Ytgiaabgmnjaefaa.PStreamPieces Go.Proofs.YtgiaabgmnjaefaaW.PrintWords Go.Proofs.YtgiaabgmnjaefaaW.PrintLast

theorem StreamPieces : Go.Proofs.Ytgiaabgmnjaefaa.StatStreamPieces.Pure := by
  unfold Go.Proofs.Ytgiaabgmnjaefaa.StatStreamPieces.Pure
  intros
  rfl

end Go.Proofs.Ytgiaabgmnjaefaa.Pure
