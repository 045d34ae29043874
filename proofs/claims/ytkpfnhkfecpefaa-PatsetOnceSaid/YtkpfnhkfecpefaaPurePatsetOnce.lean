/- PatsetOnce: patterns are unlike each other, none is empty, and each one came; the first one to come stands ahead. For every input; no condition. -/
import Derived.Test.YtkpfnhkfecpefaaStatPatsetOnce
namespace Go.Proofs.Ytkpfnhkfecpefaa.Pure
open Go.RowKit Go.Proofs.Ytkpfnhkfecpefaa.PPatsetOnce Go.Proofs.YtkpfnhkfecpefaaW.PrintWords Go.Proofs.YtkpfnhkfecpefaaW.PrintLast

theorem PatsetOnce : Go.Proofs.Ytkpfnhkfecpefaa.StatPatsetOnce.Pure := by
  intro a0 _ h0 _
  unfold seinelaw04_PatsetOnce.f
  exact if_pos h0

end Go.Proofs.Ytkpfnhkfecpefaa.Pure
