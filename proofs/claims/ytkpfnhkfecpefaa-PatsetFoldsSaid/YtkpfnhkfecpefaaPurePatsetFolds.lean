/- PatsetFolds: a file without case is the file of its bytes without case; all its patterns are without case. For every input; no condition. -/
import Derived.Test.YtkpfnhkfecpefaaStatPatsetFolds
namespace Go.Proofs.Ytkpfnhkfecpefaa.Pure
open Go.RowKit Go.Proofs.Ytkpfnhkfecpefaa.PPatsetFolds Go.Proofs.YtkpfnhkfecpefaaW.PrintWords Go.Proofs.YtkpfnhkfecpefaaW.PrintLast

theorem PatsetFolds : Go.Proofs.Ytkpfnhkfecpefaa.StatPatsetFolds.Pure := by
  intro a0 _ _ h0
  unfold seinelaw04_PatsetFolds.f
  exact if_pos h0

end Go.Proofs.Ytkpfnhkfecpefaa.Pure
