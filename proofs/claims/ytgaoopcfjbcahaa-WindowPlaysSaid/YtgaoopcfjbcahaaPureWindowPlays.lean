/- WindowPlays: whatever is added and cleared, what a window holds, its room, and how many bytes were moved, are the document's, step by step; one that is none holds nothing. For every list of acts; no condition. -/
import Derived.Test.YtgaoopcfjbcahaaStatWindowPlays
namespace Go.Proofs.Ytgaoopcfjbcahaa.Pure
open Go.RowKit Go.Proofs.Ytgaoopcfjbcahaa.PWindowPlays Go.Proofs.YtgaoopcfjbcahaaW.PrintWords Go.Proofs.YtgaoopcfjbcahaaW.PrintLast

theorem WindowPlays : Go.Proofs.Ytgaoopcfjbcahaa.StatWindowPlays.Pure := by
  intro a0 _ hl _
  unfold seinelaw18_WindowPlays.f
  rw [if_pos (by omega)]

end Go.Proofs.Ytgaoopcfjbcahaa.Pure
