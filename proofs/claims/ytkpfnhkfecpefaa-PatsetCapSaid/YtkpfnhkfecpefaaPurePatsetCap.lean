/- PatsetCap: a file of FileCap bytes is loaded, one byte more is too many, whatever they are. For every input; no condition. -/
import Derived.Test.YtkpfnhkfecpefaaStatPatsetCap
namespace Go.Proofs.Ytkpfnhkfecpefaa.Pure
open Go.RowKit Go.Proofs.Ytkpfnhkfecpefaa.PPatsetCap Go.Proofs.YtkpfnhkfecpefaaW.PrintWords Go.Proofs.YtkpfnhkfecpefaaW.PrintLast

theorem PatsetCap : Go.Proofs.Ytkpfnhkfecpefaa.StatPatsetCap.Pure := by
  unfold Go.Proofs.Ytkpfnhkfecpefaa.StatPatsetCap.Pure
  intros
  rfl

end Go.Proofs.Ytkpfnhkfecpefaa.Pure
