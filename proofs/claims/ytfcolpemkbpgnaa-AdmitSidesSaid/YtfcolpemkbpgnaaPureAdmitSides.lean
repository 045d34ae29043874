/- AdmitSides: whether a piece is free hangs on its two sides alone. For every three texts; no condition. -/
import Derived.Test.YtfcolpemkbpgnaaStatAdmitSides
namespace Go.Proofs.Ytfcolpemkbpgnaa.Pure
open Go.RowKit Go.Proofs.Ytfcolpemkbpgnaa.PAdmitSides Go.Proofs.YtfcolpemkbpgnaaW.PrintWords Go.Proofs.YtfcolpemkbpgnaaW.PrintLast

theorem AdmitSides : Go.Proofs.Ytfcolpemkbpgnaa.StatAdmitSides.Pure := by
  intro a0 a1 a2 _ _ _ _ _ _ _ _ _
  rfl

end Go.Proofs.Ytfcolpemkbpgnaa.Pure
