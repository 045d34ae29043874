/- Functions of the translation and what they come to: laid by a program of this session (xprint.py) beside contracts proved by hand. No condition. -/
import Derived.Test.YtkpfnhkfecpefaaPPatsetOncex0
namespace Go.Proofs.Ytkpfnhkfecpefaa.PPatsetOnce
open Go.RowKit Go.Proofs.YtkpfnhkfecpefaaW.PrintWords Go.Proofs.YtkpfnhkfecpefaaW.PrintLast Go.Proofs.YtkpfnhkfecpefaaW.PrintMore
attribute [local go_sem] max2_int min2_int max_two min_two max_three min_three max_four min_four   -- for this text's walks alone
set_option linter.unusedVariables false
set_option linter.unusedSimpArgs false

def seinelaw04_PatsetOnce.f (l0 : List (List Int)) : Option Bool := if l0.length * 24 ≤ 140737488351232 then some true else none
theorem seinelaw04_PatsetOnce.calls (A0 : Option Addr) (c0 : Nat) (l0 : List (List Int)) (r : Bool) (w : World) (hr0 : Kd.C (Kd.slice 5 (Kd.int .u8)) w A0 l0.length l0) (hc0 : l0.length ≤ c0) (h : seinelaw04_PatsetOnce.f l0 = some r) :
    Calls Try.prog 5 #[.slice A0 l0.length c0] w fun e w' => e = .returned (.bool r) ∧ Below w.heap.size w w' := by
  unfold seinelaw04_PatsetOnce.f at h
  split at h
  · rename_i hw
    obtain rfl := Option.some.inj h
    exact Go.Proofs.Ytkpfnhkfecpefaa.Pat.once_calls A0 c0 l0 hw w hr0
  · cases h

end Go.Proofs.Ytkpfnhkfecpefaa.PPatsetOnce
