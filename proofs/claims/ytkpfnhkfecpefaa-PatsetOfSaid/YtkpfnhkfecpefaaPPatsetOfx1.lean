/- Functions of the translation and what they come to: laid by a program of this session (xprint.py) beside contracts proved by hand. No condition. -/
import Derived.Test.YtkpfnhkfecpefaaPPatsetOfx0
namespace Go.Proofs.Ytkpfnhkfecpefaa.PPatsetOf
open Go.RowKit Go.Proofs.YtkpfnhkfecpefaaW.PrintWords Go.Proofs.YtkpfnhkfecpefaaW.PrintLast Go.Proofs.YtkpfnhkfecpefaaW.PrintMore
attribute [local go_sem] max2_int min2_int max_two min_two max_three min_three max_four min_four   -- for this text's walks alone
set_option linter.unusedVariables false
set_option linter.unusedSimpArgs false

def seinelaw04_PatsetOf.f (l0 : List (List Int)) (l1 : List Int) : Option Bool := if l0.length * 24 ≤ 140737488351232 then some true else none
theorem seinelaw04_PatsetOf.calls (A0 : Option Addr) (c0 : Nat) (l0 : List (List Int)) (A1 : Option Addr) (c1 : Nat) (l1 : List Int) (r : Bool) (w : World) (hr0 : Kd.C (Kd.slice 5 (Kd.int .u8)) w A0 l0.length l0) (hc0 : l0.length ≤ c0) (hr1 : Kd.C (Kd.int .u8) w A1 l1.length l1) (hc1 : l1.length ≤ c1) (h : seinelaw04_PatsetOf.f l0 l1 = some r) :
    Calls Try.prog 4 #[.slice A0 l0.length c0, .slice A1 l1.length c1] w fun e w' => e = .returned (.bool r) ∧ Below w.heap.size w w' := by
  unfold seinelaw04_PatsetOf.f at h
  split at h
  · rename_i hw
    obtain rfl := Option.some.inj h
    exact Go.Proofs.Ytkpfnhkfecpefaa.Pat.pof_calls A0 A1 c0 c1 l0 l1 hw w hr0 hr1
  · cases h

end Go.Proofs.Ytkpfnhkfecpefaa.PPatsetOf
