/- Functions of the translation and what they come to: laid by a program of this session (xprint.py) beside contracts proved by hand. No condition. -/
import Derived.Test.YtgaoopcfjbcahaaPWindowHoldsx0
namespace Go.Proofs.Ytgaoopcfjbcahaa.PWindowHolds
open Go.RowKit Go.Proofs.YtgaoopcfjbcahaaW.PrintWords Go.Proofs.YtgaoopcfjbcahaaW.PrintLast Go.Proofs.YtgaoopcfjbcahaaW.PrintMore
attribute [local go_sem] max2_int min2_int max_two min_two max_three min_three max_four min_four   -- for this text's walks alone
set_option linter.unusedVariables false
set_option linter.unusedSimpArgs false

def seinelaw18_WindowHolds.f (l0 : List Int) (l1 : List (List Int)) : Option Bool := some true
theorem seinelaw18_WindowHolds.calls (A0 : Option Addr) (c0 : Nat) (l0 : List Int) (A1 : Option Addr) (c1 : Nat) (l1 : List (List Int)) (r : Bool) (w : World) (hr0 : Kd.C (Kd.int .u8) w A0 l0.length l0) (hc0 : l0.length ≤ c0) (hr1 : Kd.C (Kd.slice 5 (Kd.int .u8)) w A1 l1.length l1) (hc1 : l1.length ≤ c1) (h : seinelaw18_WindowHolds.f l0 l1 = some r) :
    Calls Try.prog 5 #[.slice A0 l0.length c0, .slice A1 l1.length c1] w fun e w' => e = .returned (.bool r) ∧ Below w.heap.size w w' := by
  obtain rfl := Option.some.inj h
  by_cases h1 : l0.length ≤ 400 ∧ l1.length ≤ 40
  · exact Go.Proofs.Ytgaoopcfjbcahaa.Win.holds_calls A0 A1 c0 c1 l0 l1 w hr0 hc0 hr1 hc1 h1.1 h1.2
  · exact Go.Proofs.Ytgaoopcfjbcahaa.Win.holds_skip A0 A1 l0.length l1.length c0 c1 w (by omega)

end Go.Proofs.Ytgaoopcfjbcahaa.PWindowHolds
