/- LinesAll: an iterator over lines hands them out in order, and none behind the one at which it is stopped. For every list of bytes and every byte; no condition. -/
import Derived.Test.YtccpobbebfgpbaaStatLinesAll
import Derived.Test.YtccpobbebfgpbaaAid
namespace Go.Proofs.Ytccpobbebfgpbaa.Pure
open Go.RowKit Go.Proofs.Ytccpobbebfgpbaa.PLinesAll Go.Proofs.YtccpobbebfgpbaaW.PrintWords Go.Proofs.YtccpobbebfgpbaaW.PrintLast Go.Proofs.Ytccpobbebfgpbaa.Aid

theorem LinesAll : Go.Proofs.Ytccpobbebfgpbaa.StatLinesAll.Pure := by
  intro a0 a1 _ _ _ hq
  have h := wf8 hq
  unfold seinelaw02_LinesAll.f
  rw [if_pos ⟨h.1, h.2⟩]

end Go.Proofs.Ytccpobbebfgpbaa.Pure
