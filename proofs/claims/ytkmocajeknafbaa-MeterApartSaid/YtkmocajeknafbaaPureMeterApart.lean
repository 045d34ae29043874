/- MeterApart: two meters count each for itself; a meter that is none counts nothing, and its handles answer the same. For every input; no condition. -/
import Derived.Test.YtkmocajeknafbaaStatMeterApart
namespace Go.Proofs.Ytkmocajeknafbaa.Pure
open Go.RowKit Go.Proofs.Ytkmocajeknafbaa.PMeterApart Go.Proofs.YtkmocajeknafbaaW.PrintWords Go.Proofs.YtkmocajeknafbaaW.PrintLast

theorem MeterApart : Go.Proofs.Ytkmocajeknafbaa.StatMeterApart.Pure := by
  intro a0 a1 a2 a3 a4 _ _ _ _ _ _ _ h3 h4
  unfold seinelaw05_MeterApart.f
  exact if_pos ⟨h3, h4⟩

end Go.Proofs.Ytkmocajeknafbaa.Pure
