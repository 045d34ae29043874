/- WindowMoves: no more than three times as many bytes are moved as were added, and no fewer than were; the room is never too small, and never shrinks. For every list of acts; no condition. -/
import Derived.Test.YtgaoopcfjbcahaaStatWindowMoves
namespace Go.Proofs.Ytgaoopcfjbcahaa.Pure
open Go.RowKit Go.Proofs.Ytgaoopcfjbcahaa.PWindowMoves Go.Proofs.YtgaoopcfjbcahaaW.PrintWords Go.Proofs.YtgaoopcfjbcahaaW.PrintLast

theorem WindowMoves : Go.Proofs.Ytgaoopcfjbcahaa.StatWindowMoves.Pure := by
  intro a0 _ hl _
  unfold seinelaw18_WindowMoves.f
  rw [if_pos (by omega)]

end Go.Proofs.Ytgaoopcfjbcahaa.Pure
