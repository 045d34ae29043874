/- same, where lines are the same. -/
import Derived.Test.YtgiaabgmnjaefaaStrP
namespace Go.Proofs.Ytgiaabgmnjaefaa.Str
open Go Go.RowKit Go.Proofs Go.Proofs.Ytgiaabgmnjaefaa.Met Go.Proofs.Ytgiaabgmnjaefaa.Win Go.Proofs.YtgiaabgmnjaefaaW.PrintWords Go.Proofs.YtgiaabgmnjaefaaW.PrintMore
set_option linter.unusedVariables false
set_option linter.unusedSimpArgs false
attribute [local go_sem] max2_int min2_int max_two min_two max_three min_three
set_option maxHeartbeats 16000000 in
set_option maxRecDepth 100000 in
theorem same_calls (w : World) (Aa Ab : Option Addr) (ca cb : Nat) (X : List Ln) (n : Nat) (hn : n = X.length) (ha : Kd.C kL w Aa n X) (hb : Kd.C kL w Ab n X) (hca : n ≤ ca) (hcb : n ≤ cb) :
    Calls Try.prog 23 #[.slice Aa n ca, .slice Ab n cb] w fun e w' => e = .returned (.bool true) ∧ Below w.heap.size w w' := by
  have HA := Aside0.mk ha
  have HB := Aside0.mk hb
  have HN := Aside0.mk hn
  have HL := Aside0.mk (C_len ha)
  clear ha hb hn
  go_enter Try.func23, Try.ntmps23
  go_wp2
  go_loopw [5] (fun v5 wr => ∃ (i : Nat), v5 = .int .i64 (i : Int) ∧ Aside0 (i ≤ n) ∧ Aside0 (Below w.heap.size w wr)) (fun v _ => n - (intOf v).toNat)
  case atStart => exact ⟨0, rfl, ⟨Nat.zero_le _⟩, ⟨Below.refl _ _⟩⟩
  case round =>
    obtain ⟨i, rfl, HI, HBW⟩ := hrel
    by_cases hlt : i < n
    · have e1 : decide ((i : Int) < (n : Int)) = true := decide_eq_true (by omega)
      have e2 : decide (i < n) = true := decide_eq_true hlt
      have HIL := Aside0.mk hlt
      obtain ⟨ad1, A1, c1, rfl, p0, p1, p2, p3, p4⟩ := line_at (Kd.C_below HA.out HBW.out) i (X[i]'(by rw [← HN.out]; exact hlt)) (List.getElem?_eq_getElem _)
      obtain ⟨ad2, A2, c2, rfl, q0, q1, q2, q3, q4⟩ := line_at (Kd.C_below HB.out HBW.out) i (X[i]'(by rw [← HN.out]; exact hlt)) (List.getElem?_eq_getElem _)
      generalize (X[i]'(by rw [← HN.out]; exact hlt)) = x at p0 p1 p2 p3 p4 q0 q1 q2 q3 q4
      obtain ⟨x0, x1, xs⟩ := x
      dsimp only at p0 p1 p2 p3 p4 q0 q1 q2 q3 q4
      have s0 := fun m => Kd.C_string (P := Try.prog) (A := A1) (c := c1) Try.underlying38 Try.underlying5 Try.underlying9 (Kd.C_drewN p4 m)
      have s1 := fun m => Kd.C_string (P := Try.prog) (A := A2) (c := c2) Try.underlying38 Try.underlying5 Try.underlying9 (Kd.C_drewN q4 m)
      have k0 : 0 ≤ (i : Int) := by omega
      have k1 : (i : Int) < (n : Int) := by omega
      have hw2 : wrap64 ((i : Int) + 1) = ((i + 1 : Nat) : Int) := wr_big (by omega) (by have := HL.out; omega)
      clear hlt p3 q3 p4 q4
      generalize strOfNums xs = str at s0 s1
      generalize xs.length = m at p2 q2 s0 s1
      go_wp2
      go_quiet (fail)
      go_wp2
      go_roundw
      case rel => exact ⟨i + 1, by first | rfl | exact congrArg (Value.int .i64) hw2, HIL, ⟨pw_below_drewN HBW.out _⟩⟩
      case measure => exact ms_step HIL.out (by first | exact hw2 | simp)
    · have e1 : decide ((i : Int) < (n : Int)) = false := decide_eq_false (by omega)
      have e2 : decide (i < n) = false := decide_eq_false hlt
      go_wp2
      go_ret
      exact ⟨rfl, HBW.out⟩
end Go.Proofs.Ytgiaabgmnjaefaa.Str
