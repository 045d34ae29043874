/- Functions of the translation and what they come to: laid by a program of this session (xprint.py) beside contracts proved by hand. No condition. -/
import Derived.Test.YtkmocajeknafbaaPMeterDensex0
namespace Go.Proofs.Ytkmocajeknafbaa.PMeterDense
open Go.RowKit Go.Proofs.YtkmocajeknafbaaW.PrintWords Go.Proofs.YtkmocajeknafbaaW.PrintLast Go.Proofs.YtkmocajeknafbaaW.PrintMore
attribute [local go_sem] max2_int min2_int max_two min_two max_three min_three max_four min_four   -- for this text's walks alone
set_option linter.unusedVariables false
set_option linter.unusedSimpArgs false

def askOf (x : S45) : Int × Int := (x.f0, x.f1)
theorem asks_at {w : World} {A : Option Addr} {l : List S45} (h : Kd.C k45 w A l.length l) : Go.Proofs.Ytkmocajeknafbaa.Met.AsksAt w A (l.map askOf) := by
  intro i h0 h1
  rw [List.length_map] at h1
  obtain ⟨ad, e, q0, q1⟩ := at_T45 h i h0 h1
  have hr : Go.Proofs.Ytkmocajeknafbaa.Met.rdA (l.map askOf) i = askOf (rd_T45 l i) := by
    unfold Go.Proofs.Ytkmocajeknafbaa.Met.rdA rd_T45
    rw [List.getD_eq_getElem?_getD, List.getD_eq_getElem?_getD, List.getElem?_map, List.getElem?_eq_getElem (by omega)]
    rfl
  rw [hr]
  exact ⟨ad, e, q0, q1⟩
def seinelaw05_MeterDense.f (l0 : List Int) (a1 : Int) (l2 : List Int) (l3 : List S45) : Option Bool :=
  if (∀ x ∈ l3, (Lit.int .i64 x.f0).wf = true ∧ (Lit.int .u8 x.f1).wf = true) then some true else none
theorem seinelaw05_MeterDense.calls (A0 : Option Addr) (c0 : Nat) (l0 : List Int) (a1 : Int) (A2 : Option Addr) (c2 : Nat) (l2 : List Int) (A3 : Option Addr) (c3 : Nat) (l3 : List S45) (r : Bool) (w : World) (hr0 : Kd.C (Kd.int .i64) w A0 l0.length l0) (hc0 : l0.length ≤ c0) (hr2 : Kd.C (Kd.int .i64) w A2 l2.length l2) (hc2 : l2.length ≤ c2) (hr3 : Kd.C k45 w A3 l3.length l3) (hc3 : l3.length ≤ c3) (h : seinelaw05_MeterDense.f l0 a1 l2 l3 = some r) :
    Calls Try.prog 7 #[.slice A0 l0.length c0, .int .i64 a1, .slice A2 l2.length c2, .slice A3 l3.length c3] w fun e w' => e = .returned (.bool r) ∧ Below w.heap.size w w' := by
  unfold seinelaw05_MeterDense.f at h
  split at h
  · rename_i hw
    obtain rfl := Option.some.inj h
    by_cases h1 : l0.length ≤ 256 ∧ l2.length ≤ 200 ∧ l3.length ≤ 60
    · have := Go.Proofs.Ytkmocajeknafbaa.Met.mdense_calls A0 A2 A3 c0 c2 c3 l0 l2 a1 (l3.map askOf) w hr0 hr2 hc2 (asks_at hr3) (fun r hr => by obtain ⟨x, hx, rfl⟩ := List.mem_map.mp hr; exact hw x hx) h1.1 h1.2.1 (by rw [List.length_map]; exact h1.2.2)
      rw [List.length_map] at this
      exact this
    · exact Go.Proofs.Ytkmocajeknafbaa.Met.mdense_skip A0 A2 A3 l0.length l2.length l3.length c0 c2 c3 a1 w (by omega)
  · cases h

end Go.Proofs.Ytkmocajeknafbaa.PMeterDense
