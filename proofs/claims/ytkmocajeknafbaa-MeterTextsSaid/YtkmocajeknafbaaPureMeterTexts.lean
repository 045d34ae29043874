/- MeterTexts: whatever bytes of a text are asked for, each one, and how many were there, are the document's; later changes of what was handed in play no part. For every input; no condition. -/
import Derived.Test.YtkmocajeknafbaaStatMeterTexts
namespace Go.Proofs.Ytkmocajeknafbaa.Pure
open Go.RowKit Go.Proofs.Ytkmocajeknafbaa.PMeterTexts Go.Proofs.YtkmocajeknafbaaW.PrintWords Go.Proofs.YtkmocajeknafbaaW.PrintLast

theorem MeterTexts : Go.Proofs.Ytkmocajeknafbaa.StatMeterTexts.Pure := by
  unfold Go.Proofs.Ytkmocajeknafbaa.StatMeterTexts.Pure
  intros
  rfl

end Go.Proofs.Ytkmocajeknafbaa.Pure
