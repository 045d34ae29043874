/- AdmitEmpty: an empty piece never may be with whole words; with whole lines just that of an empty line; else each one. For every line, place, and both options; no condition. -/
import Derived.Test.YtfcolpemkbpgnaaPAdmitEmptyx1
namespace Go.Proofs.Ytfcolpemkbpgnaa.Pure
open Go.RowKit Go.Proofs.Ytfcolpemkbpgnaa.PAdmitEmpty Go.Proofs.YtfcolpemkbpgnaaW.PrintWords Go.Proofs.YtfcolpemkbpgnaaW.PrintLast

theorem free_empty (l : List Int) (k : Int) : freeB l k k = false := by unfold freeB; simp
theorem whole_empty (l : List Int) (k : Int) (h0 : 0 ≤ k) (h1 : k ≤ (l.length : Int)) : wholeB l k k = ((l.length : Int) == 0) := by
  unfold wholeB
  by_cases h : k = 0
  · subst h
    rw [beq_self_eq_true, Bool.true_and]
    exact Bool.eq_iff_iff.mpr (by simp only [beq_iff_eq]; omega)
  · rw [beq_eq_false_iff_ne.mpr h, Bool.false_and]
    exact (beq_eq_false_iff_ne.mpr (by omega)).symm
theorem piece_empty (l : List Int) (k : Int) (h0 : 0 ≤ k) (h1 : k ≤ (l.length : Int)) : pieceB l k k = true := by
  unfold pieceB; simp [h0, h1]
theorem may_empty (l : List Int) (k : Int) (h0 : 0 ≤ k) (h1 : k ≤ (l.length : Int)) (x y : Bool) : mayB l k k x y = (!x && (!y || ((l.length : Int) == 0))) := by
  unfold mayB mustFns
  cases x <;> cases y <;> simp [mustB, free_empty, whole_empty l k h0 h1, piece_empty l k h0 h1]

theorem AdmitEmpty : seinelaw22_AdmitEmpty.Pure := by
  intro l a w x hl _ _ ha
  have hr : 0 ≤ a ∧ a ≤ 65535 := by simpa [Lit.wf, IntKind.min, IntKind.max, IntKind.signed, IntKind.bits] using ha
  have hm : (l.length : Int) ≤ 9223372036854775807 := by unfold maxLen at hl; omega
  unfold seinelaw22_AdmitEmpty.f seinelaw22_awake.f
  simp only [Option.bind_some, if_true]
  by_cases h4 : (l.length : Int) > 400
  · rw [if_pos h4]
  · rw [if_neg h4]
    have e1 : wrap64 ((l.length : Int) + 1) = (l.length : Int) + 1 := by unfold wrap64; omega
    have e2 : wrap64 a = a := by unfold wrap64; omega
    have e3 : Int.tmod a ((l.length : Int) + 1) = a % ((l.length : Int) + 1) := Int.tmod_eq_emod_of_nonneg hr.1
    rw [e1, if_neg (by omega), e2, e3]
    have k0 : 0 ≤ a % ((l.length : Int) + 1) := Int.emod_nonneg _ (by omega)
    have k1 : a % ((l.length : Int) + 1) ≤ (l.length : Int) := by have := Int.emod_lt_of_pos a (show (0 : Int) < (l.length : Int) + 1 by omega); omega
    generalize a % ((l.length : Int) + 1) = k at k0 k1
    unfold admit_May.f admit_Free.f
    simp only [Option.bind_some, may_empty l k k0 k1, free_empty]
    cases w <;> cases x <;> simp

end Go.Proofs.Ytfcolpemkbpgnaa.Pure
