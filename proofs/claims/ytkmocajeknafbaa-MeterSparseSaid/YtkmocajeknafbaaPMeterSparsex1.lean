/- Functions of the translation and what they come to: laid by a program of this session (xprint.py) beside contracts proved by hand. No condition. -/
import Derived.Test.YtkmocajeknafbaaPMeterSparsex0
namespace Go.Proofs.Ytkmocajeknafbaa.PMeterSparse
open Go.RowKit Go.Proofs.YtkmocajeknafbaaW.PrintWords Go.Proofs.YtkmocajeknafbaaW.PrintLast Go.Proofs.YtkmocajeknafbaaW.PrintMore
attribute [local go_sem] max2_int min2_int max_two min_two max_three min_three max_four min_four   -- for this text's walks alone
set_option linter.unusedVariables false
set_option linter.unusedSimpArgs false

def rowOf (x : S41) : Int × Int × Int := (x.f0, x.f1, x.f2)
def askOf (x : S45) : Int × Int := (x.f0, x.f1)
theorem rows_at {w : World} {A : Option Addr} {l : List S41} (h : Kd.C k41 w A l.length l) : Go.Proofs.Ytkmocajeknafbaa.Met.RowsAt w A (l.map rowOf) := by
  intro i h0 h1
  rw [List.length_map] at h1
  obtain ⟨ad, e, q0, q1, q2⟩ := at_T41 h i h0 h1
  have hr : Go.Proofs.Ytkmocajeknafbaa.Met.rdR (l.map rowOf) i = rowOf (rd_T41 l i) := by
    unfold Go.Proofs.Ytkmocajeknafbaa.Met.rdR rd_T41
    rw [List.getD_eq_getElem?_getD, List.getD_eq_getElem?_getD, List.getElem?_map, List.getElem?_eq_getElem (by omega)]
    rfl
  rw [hr]
  exact ⟨ad, e, q0, q1, q2⟩
theorem asks_at {w : World} {A : Option Addr} {l : List S45} (h : Kd.C k45 w A l.length l) : Go.Proofs.Ytkmocajeknafbaa.Met.AsksAt w A (l.map askOf) := by
  intro i h0 h1
  rw [List.length_map] at h1
  obtain ⟨ad, e, q0, q1⟩ := at_T45 h i h0 h1
  have hr : Go.Proofs.Ytkmocajeknafbaa.Met.rdA (l.map askOf) i = askOf (rd_T45 l i) := by
    unfold Go.Proofs.Ytkmocajeknafbaa.Met.rdA rd_T45
    rw [List.getD_eq_getElem?_getD, List.getD_eq_getElem?_getD, List.getElem?_map, List.getElem?_eq_getElem (by omega)]
    rfl
  rw [hr]
  exact ⟨ad, e, q0, q1⟩
def seinelaw05_MeterSparse.f (l0 : List S41) (l1 : List S45) : Option Bool :=
  if (∀ x ∈ l0, (Lit.int .i64 x.f0).wf = true ∧ (Lit.int .u8 x.f1).wf = true ∧ (Lit.int .i64 x.f2).wf = true) ∧ (∀ x ∈ l1, (Lit.int .i64 x.f0).wf = true ∧ (Lit.int .u8 x.f1).wf = true) then some true else none
theorem seinelaw05_MeterSparse.calls (A0 : Option Addr) (c0 : Nat) (l0 : List S41) (A1 : Option Addr) (c1 : Nat) (l1 : List S45) (r : Bool) (w : World) (hr0 : Kd.C k41 w A0 l0.length l0) (hc0 : l0.length ≤ c0) (hr1 : Kd.C k45 w A1 l1.length l1) (hc1 : l1.length ≤ c1) (h : seinelaw05_MeterSparse.f l0 l1 = some r) :
    Calls Try.prog 4 #[.slice A0 l0.length c0, .slice A1 l1.length c1] w fun e w' => e = .returned (.bool r) ∧ Below w.heap.size w w' := by
  unfold seinelaw05_MeterSparse.f at h
  split at h
  · rename_i hw
    obtain rfl := Option.some.inj h
    by_cases h1 : l0.length ≤ 60 ∧ l1.length ≤ 60
    · have := Go.Proofs.Ytkmocajeknafbaa.Met.msparse_calls A0 A1 c0 c1 (l0.map rowOf) (l1.map askOf) w (rows_at hr0) (fun r hr => by obtain ⟨x, hx, rfl⟩ := List.mem_map.mp hr; exact hw.1 x hx) (asks_at hr1) (fun r hr => by obtain ⟨x, hx, rfl⟩ := List.mem_map.mp hr; exact hw.2 x hx) (by rw [List.length_map]; exact h1.1) (by rw [List.length_map]; exact h1.2)
      rw [List.length_map, List.length_map] at this
      exact this
    · exact Go.Proofs.Ytkmocajeknafbaa.Met.msparse_skip A0 A1 l0.length l1.length c0 c1 w (by omega)
  · cases h

end Go.Proofs.Ytkmocajeknafbaa.PMeterSparse
