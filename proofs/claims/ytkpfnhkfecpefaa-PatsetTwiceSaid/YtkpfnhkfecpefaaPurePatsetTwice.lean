/- PatsetTwice: a file twice, with a newline between, has the patterns of the file, in their order; the empty one comes just if it was there, or the file ends in a newline, or is empty. For every input; no condition. -/
import Derived.Test.YtkpfnhkfecpefaaStatPatsetTwice
namespace Go.Proofs.Ytkpfnhkfecpefaa.Pure
open Go.RowKit Go.Proofs.Ytkpfnhkfecpefaa.PPatsetTwice Go.Proofs.YtkpfnhkfecpefaaW.PrintWords Go.Proofs.YtkpfnhkfecpefaaW.PrintLast

theorem PatsetTwice : Go.Proofs.Ytkpfnhkfecpefaa.StatPatsetTwice.Pure := by
  unfold Go.Proofs.Ytkpfnhkfecpefaa.StatPatsetTwice.Pure
  intros
  rfl

end Go.Proofs.Ytkpfnhkfecpefaa.Pure
