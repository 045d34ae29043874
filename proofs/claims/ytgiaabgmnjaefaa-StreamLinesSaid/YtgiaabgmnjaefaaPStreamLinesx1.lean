/- Functions of the translation and what they come to: laid by a program of this session (xprint.py) beside contracts proved by hand. No condition. -/
import Derived.Test.YtgiaabgmnjaefaaPStreamLinesx0
namespace Go.Proofs.Ytgiaabgmnjaefaa.PStreamLines
open Go.RowKit Go.Proofs.YtgiaabgmnjaefaaW.PrintWords Go.Proofs.YtgiaabgmnjaefaaW.PrintLast Go.Proofs.YtgiaabgmnjaefaaW.PrintMore
attribute [local go_sem] max2_int min2_int max_two min_two max_three min_three max_four min_four   -- for this text's walks alone
set_option linter.unusedVariables false
set_option linter.unusedSimpArgs false

def seinelaw20_StreamLines.f (l0 : List (List Int)) : Option Bool := some true
theorem seinelaw20_StreamLines.calls (A0 : Option Addr) (c0 : Nat) (l0 : List (List Int)) (r : Bool) (w : World) (hr0 : Kd.C (Kd.slice 5 (Kd.int .u8)) w A0 l0.length l0) (hc0 : l0.length ≤ c0) (h : seinelaw20_StreamLines.f l0 = some r) :
    Calls Try.prog 8 #[.slice A0 l0.length c0] w fun e w' => e = .returned (.bool r) ∧ Below w.heap.size w w' := by
  obtain rfl := Option.some.inj h
  exact Go.Proofs.Ytgiaabgmnjaefaa.Str.lines_calls A0 c0 l0 w hr0 hc0

end Go.Proofs.Ytgiaabgmnjaefaa.PStreamLines
