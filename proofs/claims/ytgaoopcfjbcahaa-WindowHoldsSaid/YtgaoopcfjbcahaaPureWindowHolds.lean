/- WindowHolds: it holds what was added since it was cleared, in order, whatever was there before, and whatever comes of what was told and handed in. For every list of bytes and every list of lists; no condition. -/
import Derived.Test.YtgaoopcfjbcahaaStatWindowHolds
namespace Go.Proofs.Ytgaoopcfjbcahaa.Pure
open Go.RowKit Go.Proofs.Ytgaoopcfjbcahaa.PWindowHolds Go.Proofs.YtgaoopcfjbcahaaW.PrintWords Go.Proofs.YtgaoopcfjbcahaaW.PrintLast

theorem WindowHolds : Go.Proofs.Ytgaoopcfjbcahaa.StatWindowHolds.Pure := by
  intro a0 a1 _ _ _ _ _ _
  rfl

end Go.Proofs.Ytgaoopcfjbcahaa.Pure
