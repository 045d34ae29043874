/- Look, over a table of rows, counted, of any meter or none. -/
import Derived.Test.YtkmocajeknafbaaMetE
namespace Go.Proofs.Ytkmocajeknafbaa.Met
open Go Go.RowKit Go.Proofs Go.Proofs.YtkmocajeknafbaaW.PrintWords Go.Proofs.YtkmocajeknafbaaW.PrintMore Go.Proofs.Ytkmocajeknafbaa.Mp Go.Maps
set_option linter.unusedVariables false
set_option linter.unusedSimpArgs false
set_option maxHeartbeats 8000000 in
set_option maxRecDepth 100000 in
theorem look_calls {w : World} {gt base gp gm n : Nat} {M : Option Nat} {L : List Row} (a b c d : Int) (h : TabAt w gt M base gp gm n L) (hM : MAt w M a b c d) (hL : RowsOk L) (s y : Int) (hs : (Lit.int .i64 s).wf = true) (hy : (Lit.int .u8 y).wf = true) (hb0 : 0 ≤ b) (hb1 : b ≤ 1000000000000) :
    Calls Try.prog 15 #[.pointer (some ⟨gt, 0, none⟩), .int .i64 s, .int .u8 y] w fun e w' => e = .returned (.int .i64 ((sp L s y).getD (-1))) ∧ TabAt w' gt M base gp gm n L ∧ Put w w' M a (b + 1) c d := by
  have HT := Aside0.mk h
  have HM := Aside0.mk hM
  have HL := Aside0.mk hL
  have HS := Aside0.mk hs
  have HY := Aside0.mk hy
  have hu := Try.underlying70
  have hue := Try.underlying66
  have k0 : w.cell? ⟨gt, 0, none⟩ = some (.pointer (mp M)) := (blk_cell h.box 0).trans rfl
  clear h hM hL hs hy
  go_enter Try.func15, Try.ntmps15
  go_wp2_with fail
  refine (count_any M a b c d _ HM.out).mono ?_
  rintro e w3 ⟨g, T, x, rfl, hC⟩
  clear k0
  obtain ⟨v, hx, k0, h0', h1'⟩ := hC.at_ 1 (by decide)
  have f0 := blk_frozen hC.blk 1
  have hv0 : 0 ≤ v := by
    by_cases hm : M = none
    · rw [h0' hm]; exact Int.le_refl _
    · have := h1' hm; simp at this; omega
  have hv1 : v ≤ 1000000000000 := by
    by_cases hm : M = none
    · rw [h0' hm]; omega
    · have := h1' hm; simp at this; omega
  have hP := hC.put 1 (v + 1) a (b + 1) c d (fun hm => by have := h1' hm; simp at this; rw [this]; rfl)
  have HT3 := Aside0.mk (HT.out.put hP)
  have HP := Aside0.mk hP
  clear hx h0' h1' hP hC
  have q1 : (w3.setCell ⟨g, 1, none⟩ (.int .i64 (v + 1))).cell? ⟨gt, 1, none⟩ = some (.func (.func 23) #[] #[.pointer (some ⟨gp, 0, none⟩)]) := (blk_cell HT3.out.box 1).trans rfl
  go_wp2_with fail
  refine (look1_calls HT3.out HL.out s y HS.out HY.out).mono ?_
  rintro e w5 ⟨rfl, hb5⟩
  have HT5 := Aside0.mk (HT3.out.below hb5)
  have HP5 := Aside0.mk (show Put w w5 M a (b + 1) c d from ⟨HP.out.met.below hb5, HP.out.kept.below hb5, fun B hB hBM => below_then (HP.out.bel B hB hBM) (Nat.le_trans hB HP.out.kept.1) hb5⟩)
  clear hb5
  go_wp2
  go_ret
  exact ⟨rfl, HT5.out, HP5.out⟩
set_option maxHeartbeats 8000000 in
set_option maxRecDepth 100000 in
theorem look_none (s y : Int) (w : World) :
    Calls Try.prog 15 #[.pointer none, .int .i64 s, .int .u8 y] w fun e w' => e = .returned (.int .i64 (-1)) ∧ Below w.heap.size w w' := by
  go_enter Try.func15, Try.ntmps15
  go_wp2
  go_ret
  exact ⟨rfl, Below.refl _ _⟩
end Go.Proofs.Ytkmocajeknafbaa.Met
