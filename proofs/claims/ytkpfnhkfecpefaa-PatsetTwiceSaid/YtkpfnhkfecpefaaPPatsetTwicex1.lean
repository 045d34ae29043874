/- Functions of the translation and what they come to: laid by a program of this session (xprint.py) beside contracts proved by hand. No condition. -/
import Derived.Test.YtkpfnhkfecpefaaPPatsetTwicex0
namespace Go.Proofs.Ytkpfnhkfecpefaa.PPatsetTwice
open Go.RowKit Go.Proofs.YtkpfnhkfecpefaaW.PrintWords Go.Proofs.YtkpfnhkfecpefaaW.PrintLast Go.Proofs.YtkpfnhkfecpefaaW.PrintMore
attribute [local go_sem] max2_int min2_int max_two min_two max_three min_three max_four min_four   -- for this text's walks alone
set_option linter.unusedVariables false
set_option linter.unusedSimpArgs false

def seinelaw04_PatsetTwice.f (l0 : List Int) (a1 : Bool) : Option Bool := some true
theorem seinelaw04_PatsetTwice.calls (A0 : Option Addr) (c0 : Nat) (l0 : List Int) (a1 : Bool) (r : Bool) (w : World) (hr0 : Kd.C (Kd.int .u8) w A0 l0.length l0) (hc0 : l0.length ≤ c0) (h : seinelaw04_PatsetTwice.f l0 a1 = some r) :
    Calls Try.prog 7 #[.slice A0 l0.length c0, .bool a1] w fun e w' => e = .returned (.bool r) ∧ Below w.heap.size w w' := by
  obtain rfl := Option.some.inj h
  exact Go.Proofs.Ytkpfnhkfecpefaa.Pat.twice_calls A0 c0 l0 a1 w hr0 hc0

end Go.Proofs.Ytkpfnhkfecpefaa.PPatsetTwice
