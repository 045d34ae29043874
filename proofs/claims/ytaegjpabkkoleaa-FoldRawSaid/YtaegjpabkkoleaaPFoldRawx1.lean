/- Functions of the translation and what they come to: laid by a program of this session (xprint.py) beside contracts proved by hand. No condition. -/
import Derived.Test.YtaegjpabkkoleaaPFoldRawx0
namespace Go.Proofs.Ytaegjpabkkoleaa.PFoldRaw
open Go.RowKit Go.Proofs.YtaegjpabkkoleaaW.PrintWords Go.Proofs.YtaegjpabkkoleaaW.PrintLast Go.Proofs.YtaegjpabkkoleaaW.PrintMore
attribute [local go_sem] max2_int min2_int max_two min_two max_three min_three max_four min_four   -- for this text's walks alone
set_option linter.unusedVariables false
set_option linter.unusedSimpArgs false

theorem eqA31 (d : Nat) (w : World) (x0 y0 : Int) (x1 y1 : Int) (x2 y2 : Int) (x3 y3 : Int) :
    (Op.equalIn (d + 2) 31 (.agg #[.int .u64 x0, .int .u64 x1, .int .u64 x2, .int .u64 x3]) (.agg #[.int .u64 y0, .int .u64 y1, .int .u64 y2, .int .u64 y3])).run Try.prog w = .ok (x0 == y0 && (x1 == y1 && (x2 == y2 && (x3 == y3)))) w := by
  have hu := Try.underlying29
  obtain ⟨i, hi⟩ : ∃ i, Try.prog.info? 29 = some i := Option.isSome_iff_exists.mp (show (Try.prog.info? 29).isSome = true by kernel_rfl)
  rw [run_equalIn_array (P := Try.prog) w (d + 1) (t := 31) (e := 29) (n := 4) _ _ Try.underlying31 hi, show Try.prog.cellsOf 29 = 1 by kernel_rfl]
  simp only [show List.range 4 = [0, 1, 2, 3] by decide, Op.eqItems]
  go_simp
  by_cases h0 : x0 = y0 <;> by_cases h1 : x1 = y1 <;> by_cases h2 : x2 = y2 <;> by_cases h3 : x3 = y3 <;> simp [*]
end Go.Proofs.Ytaegjpabkkoleaa.PFoldRaw
