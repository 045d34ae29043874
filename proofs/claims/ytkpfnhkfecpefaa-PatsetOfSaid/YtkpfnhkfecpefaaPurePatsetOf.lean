/- PatsetOf: the set of any texts is the document's; a zero set has no patterns. For every input; no condition. -/
import Derived.Test.YtkpfnhkfecpefaaStatPatsetOf
namespace Go.Proofs.Ytkpfnhkfecpefaa.Pure
open Go.RowKit Go.Proofs.Ytkpfnhkfecpefaa.PPatsetOf Go.Proofs.YtkpfnhkfecpefaaW.PrintWords Go.Proofs.YtkpfnhkfecpefaaW.PrintLast

theorem PatsetOf : Go.Proofs.Ytkpfnhkfecpefaa.StatPatsetOf.Pure := by
  intro a0 a1 _ h0 _ _ _ _
  unfold seinelaw04_PatsetOf.f
  exact if_pos h0

end Go.Proofs.Ytkpfnhkfecpefaa.Pure
