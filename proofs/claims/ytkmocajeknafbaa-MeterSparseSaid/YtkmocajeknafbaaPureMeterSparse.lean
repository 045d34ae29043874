/- MeterSparse: wherever rows say that a state goes by a byte is the document's, and each look is counted. For every rows and asks; no condition. -/
import Derived.Test.YtkmocajeknafbaaStatMeterSparse
namespace Go.Proofs.Ytkmocajeknafbaa.Pure
open Go.RowKit Go.Proofs.Ytkmocajeknafbaa.PMeterSparse Go.Proofs.YtkmocajeknafbaaW.PrintWords Go.Proofs.YtkmocajeknafbaaW.PrintLast

theorem MeterSparse : Go.Proofs.Ytkmocajeknafbaa.StatMeterSparse.Pure := by
  intro a0 a1 _ _ h0 _ _ h1
  unfold seinelaw05_MeterSparse.f
  exact if_pos ⟨h0, h1⟩

end Go.Proofs.Ytkmocajeknafbaa.Pure
