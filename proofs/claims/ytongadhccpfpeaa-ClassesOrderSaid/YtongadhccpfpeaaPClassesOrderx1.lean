/- Functions of the translation and what they come to: laid by a program of this session (xprint.py) beside contracts proved by hand. No condition. -/
import Derived.Test.YtongadhccpfpeaaPClassesOrderx0
namespace Go.Proofs.Ytongadhccpfpeaa.PClassesOrder
open Go.RowKit Go.Proofs.YtongadhccpfpeaaW.PrintWords Go.Proofs.YtongadhccpfpeaaW.PrintLast Go.Proofs.YtongadhccpfpeaaW.PrintMore
attribute [local go_sem] max2_int min2_int max_two min_two max_three min_three max_four min_four   -- for this text's walks alone
set_option linter.unusedVariables false
set_option linter.unusedSimpArgs false

def seinelaw09_ClassesOrder.f (l0 : List (List Int)) (a1 : Int) : Option Bool := if l0.length < 8796093022208 ∧ (∀ l ∈ l0, ∀ x ∈ l, 0 ≤ x ∧ x < 256) ∧ (0 ≤ a1 ∧ a1 < 256) then some true else none
theorem seinelaw09_ClassesOrder.calls (A0 : Option Addr) (c0 : Nat) (l0 : List (List Int)) (a1 : Int) (r : Bool) (w : World) (hr0 : Kd.C (Kd.slice 5 (Kd.int .u8)) w A0 l0.length l0) (hc0 : l0.length ≤ c0) (h : seinelaw09_ClassesOrder.f l0 a1 = some r) :
    Calls Try.prog 6 #[.slice A0 l0.length c0, .int .u8 a1] w fun e w' => e = .returned (.bool r) ∧ Below w.heap.size w w' := by
  unfold seinelaw09_ClassesOrder.f at h
  by_cases hq : l0.length < 8796093022208 ∧ (∀ l ∈ l0, ∀ x ∈ l, 0 ≤ x ∧ x < 256) ∧ (0 ≤ a1 ∧ a1 < 256)
  · rw [if_pos hq] at h
    obtain rfl := Option.some.inj h
    obtain ⟨n, rfl⟩ := Int.eq_ofNat_of_zero_le hq.2.2.1
    exact Go.Proofs.Ytongadhccpfpeaa.Base9.order_calls A0 c0 l0 n w hr0 hc0 hq.1 hq.2.1 (by omega)
  · rw [if_neg hq] at h
    cases h

end Go.Proofs.Ytongadhccpfpeaa.PClassesOrder
