/- Functions of the translation and what they come to: laid by a program of this session (xprint.py) beside contracts proved by hand. No condition. -/
import Derived.Test.YtgiaabgmnjaefaaPStreamPlaysx0
namespace Go.Proofs.Ytgiaabgmnjaefaa.PStreamPlays
open Go.RowKit Go.Proofs.YtgiaabgmnjaefaaW.PrintWords Go.Proofs.YtgiaabgmnjaefaaW.PrintLast Go.Proofs.YtgiaabgmnjaefaaW.PrintMore
attribute [local go_sem] max2_int min2_int max_two min_two max_three min_three max_four min_four   -- for this text's walks alone
set_option linter.unusedVariables false
set_option linter.unusedSimpArgs false

def seinelaw20_StreamPlays.f (l0 : List (List Int)) (a1 : Int) (a2 : Bool) : Option Bool := if (∀ x ∈ l0, ∀ y ∈ x, (Lit.int .u8 y).wf = true) then some true else none
theorem seinelaw20_StreamPlays.calls (A0 : Option Addr) (c0 : Nat) (l0 : List (List Int)) (a1 : Int) (a2 : Bool) (r : Bool) (w : World) (hr0 : Kd.C (Kd.slice 5 (Kd.int .u8)) w A0 l0.length l0) (hc0 : l0.length ≤ c0) (h : seinelaw20_StreamPlays.f l0 a1 a2 = some r) :
    Calls Try.prog 3 #[.slice A0 l0.length c0, .int .i64 a1, .bool a2] w fun e w' => e = .returned (.bool r) ∧ Below w.heap.size w w' := by
  unfold seinelaw20_StreamPlays.f at h
  split at h
  · rename_i hw
    obtain rfl := Option.some.inj h
    have hby : ∀ x ∈ l0, Go.Proofs.Ytgiaabgmnjaefaa.Aid.Byt x := fun x hx => Go.Proofs.Ytgiaabgmnjaefaa.Aid.byt_of (hw x hx)
    cases a2 with
    | false => exact Go.Proofs.Ytgiaabgmnjaefaa.Str.plays_f A0 c0 l0 a1 w hr0 hc0 hby
    | true => exact Go.Proofs.Ytgiaabgmnjaefaa.Str.plays_t A0 c0 l0 a1 w hr0 hc0 hby
  · cases h

end Go.Proofs.Ytgiaabgmnjaefaa.PStreamPlays
