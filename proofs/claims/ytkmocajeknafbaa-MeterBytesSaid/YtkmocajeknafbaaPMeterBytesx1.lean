/- Functions of the translation and what they come to: laid by a program of this session (xprint.py) beside contracts proved by hand. No condition. -/
import Derived.Test.YtkmocajeknafbaaPMeterBytesx0
namespace Go.Proofs.Ytkmocajeknafbaa.PMeterBytes
open Go.RowKit Go.Proofs.YtkmocajeknafbaaW.PrintWords Go.Proofs.YtkmocajeknafbaaW.PrintLast Go.Proofs.YtkmocajeknafbaaW.PrintMore
attribute [local go_sem] max2_int min2_int max_two min_two max_three min_three max_four min_four   -- for this text's walks alone
set_option linter.unusedVariables false
set_option linter.unusedSimpArgs false

def seinelaw05_MeterBytes.f (l0 : List Int) (l1 : List Int) (l2 : List Int) : Option Bool := some true
theorem seinelaw05_MeterBytes.calls (A0 : Option Addr) (c0 : Nat) (l0 : List Int) (A1 : Option Addr) (c1 : Nat) (l1 : List Int) (A2 : Option Addr) (c2 : Nat) (l2 : List Int) (r : Bool) (w : World) (hr0 : Kd.C (Kd.int .u8) w A0 l0.length l0) (hc0 : l0.length ≤ c0) (hr1 : Kd.C (Kd.int .i64) w A1 l1.length l1) (hc1 : l1.length ≤ c1) (hr2 : Kd.C (Kd.int .u8) w A2 l2.length l2) (hc2 : l2.length ≤ c2) (h : seinelaw05_MeterBytes.f l0 l1 l2 = some r) :
    Calls Try.prog 5 #[.slice A0 l0.length c0, .slice A1 l1.length c1, .slice A2 l2.length c2] w fun e w' => e = .returned (.bool r) ∧ Below w.heap.size w w' := by
  obtain rfl := Option.some.inj h
  by_cases h1 : l0.length ≤ 300 ∧ l1.length ≤ 60 ∧ l2.length ≤ 300
  · exact Go.Proofs.Ytkmocajeknafbaa.Met.bytes_calls A0 A1 A2 c0 c1 c2 l0 l1 l2 w hr0 hc0 hr1 hc1 hr2 hc2 h1.1 h1.2.1 h1.2.2
  · exact Go.Proofs.Ytkmocajeknafbaa.Met.bytes_skip A0 A1 A2 l0.length l1.length l2.length c0 c1 c2 w (by omega)

end Go.Proofs.Ytkmocajeknafbaa.PMeterBytes
