/- Functions of the translation and what they come to: laid by a program of this session (xprint.py) beside contracts proved by hand. No condition. -/
import Derived.Test.YtgiaabgmnjaefaaPStreamCapx0
namespace Go.Proofs.Ytgiaabgmnjaefaa.PStreamCap
open Go.RowKit Go.Proofs.YtgiaabgmnjaefaaW.PrintWords Go.Proofs.YtgiaabgmnjaefaaW.PrintLast Go.Proofs.YtgiaabgmnjaefaaW.PrintMore
attribute [local go_sem] max2_int min2_int max_two min_two max_three min_three max_four min_four   -- for this text's walks alone
set_option linter.unusedVariables false
set_option linter.unusedSimpArgs false

def seinelaw20_StreamCap.f (l0 : List (List Int)) (a1 : Int) : Option Bool := if (Lit.int .u8 a1).wf = true then some true else none
theorem wf_u8c {a : Int} (h : (Lit.int .u8 a).wf = true) : 0 ≤ a ∧ a < 256 := by
  have h2 : 0 ≤ a ∧ a ≤ 255 := by simpa [Lit.wf, IntKind.min, IntKind.max, IntKind.signed, IntKind.bits] using h
  omega
theorem seinelaw20_StreamCap.calls (A0 : Option Addr) (c0 : Nat) (l0 : List (List Int)) (a1 : Int) (r : Bool) (w : World) (hr0 : Kd.C (Kd.slice 5 (Kd.int .u8)) w A0 l0.length l0) (hc0 : l0.length ≤ c0) (h : seinelaw20_StreamCap.f l0 a1 = some r) :
    Calls Try.prog 9 #[.slice A0 l0.length c0, .int .u8 a1] w fun e w' => e = .returned (.bool r) ∧ Below w.heap.size w w' := by
  unfold seinelaw20_StreamCap.f at h
  split at h
  · rename_i hw
    obtain rfl := Option.some.inj h
    exact Go.Proofs.Ytgiaabgmnjaefaa.Str.cap_calls A0 c0 l0 a1 (wf_u8c hw).1 (wf_u8c hw).2 w hr0 hc0
  · cases h

end Go.Proofs.Ytgiaabgmnjaefaa.PStreamCap
