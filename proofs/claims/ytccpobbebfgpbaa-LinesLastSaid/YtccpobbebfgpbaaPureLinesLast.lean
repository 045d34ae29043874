/- LinesLast: a newline behind a text that doesn't end in one changes nothing but that its last line ends; behind one that does there is one more line, which is empty. For every list of bytes; no condition. -/
import Derived.Test.YtccpobbebfgpbaaStatLinesLast
namespace Go.Proofs.Ytccpobbebfgpbaa.Pure
open Go.RowKit Go.Proofs.Ytccpobbebfgpbaa.PLinesLast Go.Proofs.YtccpobbebfgpbaaW.PrintWords Go.Proofs.YtccpobbebfgpbaaW.PrintLast

theorem LinesLast : Go.Proofs.Ytccpobbebfgpbaa.StatLinesLast.Pure := by
  intro a0 _ _ _
  rfl

end Go.Proofs.Ytccpobbebfgpbaa.Pure
