/- MeterDense: wherever a dense table says that a state goes by a byte is the document's, whatever its width, its classes, and how many places it has. For every input; no condition. -/
import Derived.Test.YtkmocajeknafbaaStatMeterDense
namespace Go.Proofs.Ytkmocajeknafbaa.Pure
open Go.RowKit Go.Proofs.Ytkmocajeknafbaa.PMeterDense Go.Proofs.YtkmocajeknafbaaW.PrintWords Go.Proofs.YtkmocajeknafbaaW.PrintLast

theorem MeterDense : Go.Proofs.Ytkmocajeknafbaa.StatMeterDense.Pure := by
  intro a0 a1 a2 a3 _ _ _ _ _ _ _ _ _ h3
  unfold seinelaw05_MeterDense.f
  exact if_pos h3

end Go.Proofs.Ytkmocajeknafbaa.Pure
