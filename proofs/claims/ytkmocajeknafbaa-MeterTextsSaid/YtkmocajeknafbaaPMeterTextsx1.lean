/- Functions of the translation and what they come to: laid by a program of this session (xprint.py) beside contracts proved by hand. No condition. -/
import Derived.Test.YtkmocajeknafbaaPMeterTextsx0
namespace Go.Proofs.Ytkmocajeknafbaa.PMeterTexts
open Go.RowKit Go.Proofs.YtkmocajeknafbaaW.PrintWords Go.Proofs.YtkmocajeknafbaaW.PrintLast Go.Proofs.YtkmocajeknafbaaW.PrintMore
attribute [local go_sem] max2_int min2_int max_two min_two max_three min_three max_four min_four   -- for this text's walks alone
set_option linter.unusedVariables false
set_option linter.unusedSimpArgs false

def seinelaw05_MeterTexts.f (l0 : List Int) (l1 : List Int) : Option Bool := some true
theorem seinelaw05_MeterTexts.calls (A0 : Option Addr) (c0 : Nat) (l0 : List Int) (A1 : Option Addr) (c1 : Nat) (l1 : List Int) (r : Bool) (w : World) (hr0 : Kd.C (Kd.int .u8) w A0 l0.length l0) (hc0 : l0.length ≤ c0) (hr1 : Kd.C (Kd.int .i64) w A1 l1.length l1) (hc1 : l1.length ≤ c1) (h : seinelaw05_MeterTexts.f l0 l1 = some r) :
    Calls Try.prog 3 #[.slice A0 l0.length c0, .slice A1 l1.length c1] w fun e w' => e = .returned (.bool r) ∧ Below w.heap.size w w' := by
  obtain rfl := Option.some.inj h
  by_cases h1 : l0.length ≤ 300 ∧ l1.length ≤ 100
  · exact Go.Proofs.Ytkmocajeknafbaa.Met.texts_calls A0 A1 c0 c1 l0 l1 w hr0 hc0 hr1 hc1 h1.1 h1.2
  · exact Go.Proofs.Ytkmocajeknafbaa.Met.texts_skip A0 A1 l0.length l1.length c0 c1 w (by omega)

end Go.Proofs.Ytkmocajeknafbaa.PMeterTexts
