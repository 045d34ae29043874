/- Functions of the translation and what they come to: laid by a program of this session (xprint.py) beside contracts proved by hand. No condition. -/
import Derived.Test.YtkmocajeknafbaaPMeterApartx0
namespace Go.Proofs.Ytkmocajeknafbaa.PMeterApart
open Go.RowKit Go.Proofs.YtkmocajeknafbaaW.PrintWords Go.Proofs.YtkmocajeknafbaaW.PrintLast Go.Proofs.YtkmocajeknafbaaW.PrintMore
attribute [local go_sem] max2_int min2_int max_two min_two max_three min_three max_four min_four   -- for this text's walks alone
set_option linter.unusedVariables false
set_option linter.unusedSimpArgs false

def rowOf (x : S41) : Int × Int × Int := (x.f0, x.f1, x.f2)
theorem rows_at {w : World} {A : Option Addr} {l : List S41} (h : Kd.C k41 w A l.length l) : Go.Proofs.Ytkmocajeknafbaa.Met.RowsAt w A (l.map rowOf) := by
  intro i h0 h1
  rw [List.length_map] at h1
  obtain ⟨ad, e, q0, q1, q2⟩ := at_T41 h i h0 h1
  have hr : Go.Proofs.Ytkmocajeknafbaa.Met.rdR (l.map rowOf) i = rowOf (rd_T41 l i) := by
    unfold Go.Proofs.Ytkmocajeknafbaa.Met.rdR rd_T41
    rw [List.getD_eq_getElem?_getD, List.getD_eq_getElem?_getD, List.getElem?_map, List.getElem?_eq_getElem (by omega)]
    rfl
  rw [hr]
  exact ⟨ad, e, q0, q1, q2⟩
def seinelaw05_MeterApart.f (l0 : List Int) (a1 : Int) (a2 : Int) (l3 : List S41) (a4 : Int) (a5 : Int) : Option Bool :=
  if (∀ x ∈ l3, (Lit.int .i64 x.f0).wf = true ∧ (Lit.int .u8 x.f1).wf = true ∧ (Lit.int .i64 x.f2).wf = true) ∧ (Lit.int .i64 a4).wf = true ∧ (Lit.int .u8 a5).wf = true then some true else none
theorem seinelaw05_MeterApart.calls (A0 : Option Addr) (c0 : Nat) (l0 : List Int) (a1 : Int) (a2 : Int) (A3 : Option Addr) (c3 : Nat) (l3 : List S41) (a4 : Int) (a5 : Int) (r : Bool) (w : World) (hr0 : Kd.C (Kd.int .u8) w A0 l0.length l0) (hc0 : l0.length ≤ c0) (hr3 : Kd.C k41 w A3 l3.length l3) (hc3 : l3.length ≤ c3) (h : seinelaw05_MeterApart.f l0 a1 a2 l3 a4 a5 = some r) :
    Calls Try.prog 6 #[.slice A0 l0.length c0, .int .i64 a1, .int .i64 a2, .slice A3 l3.length c3, .agg #[.int .i64 a4, .int .u8 a5]] w fun e w' => e = .returned (.bool r) ∧ Below w.heap.size w w' := by
  unfold seinelaw05_MeterApart.f at h
  split at h
  · rename_i hw
    obtain rfl := Option.some.inj h
    by_cases h1 : l0.length ≤ 200 ∧ l3.length ≤ 40
    · have := Go.Proofs.Ytkmocajeknafbaa.Met.apart_calls A0 A3 c0 c3 l0 a1 a2 (l3.map rowOf) a4 a5 w hr0 hc0 (rows_at hr3) (fun r hr => by obtain ⟨x, hx, rfl⟩ := List.mem_map.mp hr; exact hw.1 x hx) hw.2.1 hw.2.2 h1.1 (by rw [List.length_map]; exact h1.2)
      rw [List.length_map] at this
      exact this
    · exact Go.Proofs.Ytkmocajeknafbaa.Met.apart_skip A0 A3 l0.length l3.length c0 c3 a1 a2 a4 a5 w (by omega)
  · cases h

end Go.Proofs.Ytkmocajeknafbaa.PMeterApart
