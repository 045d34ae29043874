/- MeterBytes: each byte that is there is read, and counted; as many bytes are copied as both have room for, and counted; the rest stays. For every input; no condition. -/
import Derived.Test.YtkmocajeknafbaaStatMeterBytes
namespace Go.Proofs.Ytkmocajeknafbaa.Pure
open Go.RowKit Go.Proofs.Ytkmocajeknafbaa.PMeterBytes Go.Proofs.YtkmocajeknafbaaW.PrintWords Go.Proofs.YtkmocajeknafbaaW.PrintLast

theorem MeterBytes : Go.Proofs.Ytkmocajeknafbaa.StatMeterBytes.Pure := by
  unfold Go.Proofs.Ytkmocajeknafbaa.StatMeterBytes.Pure
  intros
  rfl

end Go.Proofs.Ytkmocajeknafbaa.Pure
