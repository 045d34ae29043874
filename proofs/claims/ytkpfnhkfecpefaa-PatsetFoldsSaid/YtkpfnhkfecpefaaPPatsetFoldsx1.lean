/- Functions of the translation and what they come to: laid by a program of this session (xprint.py) beside contracts proved by hand. No condition. -/
import Derived.Test.YtkpfnhkfecpefaaPPatsetFoldsx0
namespace Go.Proofs.Ytkpfnhkfecpefaa.PPatsetFolds
open Go.RowKit Go.Proofs.YtkpfnhkfecpefaaW.PrintWords Go.Proofs.YtkpfnhkfecpefaaW.PrintLast Go.Proofs.YtkpfnhkfecpefaaW.PrintMore
attribute [local go_sem] max2_int min2_int max_two min_two max_three min_three max_four min_four   -- for this text's walks alone
set_option linter.unusedVariables false
set_option linter.unusedSimpArgs false

def seinelaw04_PatsetFolds.f (l0 : List Int) : Option Bool := if (∀ x ∈ l0, (Lit.int .u8 x).wf = true) then some true else none
theorem seinelaw04_PatsetFolds.calls (A0 : Option Addr) (c0 : Nat) (l0 : List Int) (r : Bool) (w : World) (hr0 : Kd.C (Kd.int .u8) w A0 l0.length l0) (hc0 : l0.length ≤ c0) (h : seinelaw04_PatsetFolds.f l0 = some r) :
    Calls Try.prog 6 #[.slice A0 l0.length c0] w fun e w' => e = .returned (.bool r) ∧ Below w.heap.size w w' := by
  unfold seinelaw04_PatsetFolds.f at h
  split at h
  · rename_i hw
    obtain rfl := Option.some.inj h
    exact Go.Proofs.Ytkpfnhkfecpefaa.Pat.folds_calls A0 c0 l0 (Go.Proofs.Ytkpfnhkfecpefaa.Aid.byt_of hw) w hr0 hc0
  · cases h

end Go.Proofs.Ytkpfnhkfecpefaa.PPatsetFolds
