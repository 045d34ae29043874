/- PatsetLoads: the patterns of any file, folded or not, or that it is too long, are the document's. For every input; no condition. -/
import Derived.Test.YtkpfnhkfecpefaaStatPatsetLoads
namespace Go.Proofs.Ytkpfnhkfecpefaa.Pure
open Go.RowKit Go.Proofs.Ytkpfnhkfecpefaa.PPatsetLoads Go.Proofs.YtkpfnhkfecpefaaW.PrintWords Go.Proofs.YtkpfnhkfecpefaaW.PrintLast

theorem PatsetLoads : Go.Proofs.Ytkpfnhkfecpefaa.StatPatsetLoads.Pure := by
  intro a0 a1 a2 _ _ h0 _ _ _
  unfold seinelaw04_PatsetLoads.f
  exact if_pos h0

end Go.Proofs.Ytkpfnhkfecpefaa.Pure
