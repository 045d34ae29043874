/- WindowOnce: bytes that there is room for are moved once; at once, or in parts, as many are held, in no greater a room. For every two lists of bytes; no condition. -/
import Derived.Test.YtgaoopcfjbcahaaStatWindowOnce
namespace Go.Proofs.Ytgaoopcfjbcahaa.Pure
open Go.RowKit Go.Proofs.Ytgaoopcfjbcahaa.PWindowOnce Go.Proofs.YtgaoopcfjbcahaaW.PrintWords Go.Proofs.YtgaoopcfjbcahaaW.PrintLast

theorem WindowOnce : Go.Proofs.Ytgaoopcfjbcahaa.StatWindowOnce.Pure := by
  intro a0 a1 _ _ _ _ _ _
  rfl

end Go.Proofs.Ytgaoopcfjbcahaa.Pure
