/- Rows of lines, read; the example. -/
import Derived.Test.YtgiaabgmnjaefaaStrI
namespace Go.Proofs.Ytgiaabgmnjaefaa.Str
open Go Go.RowKit Go.Proofs Go.Proofs.Ytgiaabgmnjaefaa.Met Go.Proofs.Ytgiaabgmnjaefaa.Win Go.Proofs.YtgiaabgmnjaefaaW.PrintWords Go.Proofs.YtgiaabgmnjaefaaW.PrintMore
set_option linter.unusedVariables false
set_option linter.unusedSimpArgs false
attribute [local go_sem] max2_int min2_int max_two min_two max_three min_three
theorem add_tail (ad : Addr) (n j : Nat) : ad.add (n + (j + 1)) = ⟨(ad.add n).block, (ad.add n).off + (j + 1), none⟩ := by
  unfold Addr.add
  rw [if_neg (by omega)]
  by_cases h : n = 0
  · subst h; rw [if_pos rfl, Nat.zero_add]
  · rw [if_neg h]; simp only [Nat.add_assoc]
theorem line_at {w : World} {A : Option Addr} {n : Nat} {xs : List Ln} (h : Kd.C kL w A n xs) (i : Nat) (x : Ln) (hx : xs[i]? = some x) : ∃ ad At ct, A = some ad ∧ w.cell? (ad.add (i * 3)) = some (.int .i64 x.1) ∧ w.cell? ⟨(ad.add (i * 3)).block, (ad.add (i * 3)).off + 1, none⟩ = some (.int .i64 x.2.1) ∧ w.cell? ⟨(ad.add (i * 3)).block, (ad.add (i * 3)).off + 2, none⟩ = some (.slice At x.2.2.length ct) ∧ x.2.2.length ≤ ct ∧ Kd.C (Kd.int .u8) w At x.2.2.length x.2.2 := by
  have hi : i < xs.length := (List.getElem?_eq_some_iff.1 hx).1
  obtain ⟨ad, e, hc⟩ := h.2.2 (by have := h.1; omega)
  obtain ⟨c, hs, hr, hcell⟩ := hc i x hx
  obtain ⟨c0, c1, rfl, hr0, c2, c3, rfl, hr1, At, ct, rfl, hl, hC⟩ := hr
  obtain rfl : c0 = [.int .i64 x.1] := hr0
  obtain rfl : c2 = [.int .i64 x.2.1] := hr1
  have hsz : kL.sz = 3 := rfl
  refine ⟨ad, At, ct, e, ?_, ?_, ?_, hl, hC⟩
  · have := hcell 0 _ rfl
    rw [hsz] at this
    exact this
  · have := hcell 1 _ rfl
    rw [hsz, add_tail _ _ 0] at this
    exact this
  · have := hcell 2 _ rfl
    rw [hsz, add_tail _ _ 1] at this
    exact this
end Go.Proofs.Ytgiaabgmnjaefaa.Str
