/- StreamPlays: whatever chunks come, each line that is told, what is read and moved, and what is wrong, are the document's, step by step; a stream that is none tells nothing. For every input; no condition. -/
import Derived.Test.YtgiaabgmnjaefaaStatStreamPlays
namespace Go.Proofs.Ytgiaabgmnjaefaa.Pure
open Go.RowKit Go.Proofs.Ytgiaabgmnjaefaa.PStreamPlays Go.Proofs.YtgiaabgmnjaefaaW.PrintWords Go.Proofs.YtgiaabgmnjaefaaW.PrintLast

theorem StreamPlays : Go.Proofs.Ytgiaabgmnjaefaa.StatStreamPlays.Pure := by
  intro a0 a1 a2 _ _ h0 _
  unfold seinelaw20_StreamPlays.f
  exact if_pos (fun x hx => (h0 x hx).2)

end Go.Proofs.Ytgiaabgmnjaefaa.Pure
