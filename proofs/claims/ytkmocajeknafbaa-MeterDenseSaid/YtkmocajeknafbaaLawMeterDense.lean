/- MeterDense: Wherever a dense table says that a state goes by a byte is the document's, whatever its width, its classes, and how many places it has. Proved for every input, without a condition. The row was laid by a program of this session (xrow.py). -/
import Derived.Test.YtkmocajeknafbaaRows
import Derived.Test.YtkmocajeknafbaaPMeterDensex1
import Derived.Test.YtkmocajeknafbaaPureMeterDense
import Derived.Test.YtkmocajeknafbaaOpens
import Derived.WalkKit
import Derived.ProofKit
import Derived.OpenShut
import Derived.ShutString
import Derived.ChangeOld
import Derived.Below
import Derived.SizedLaws
namespace Go.Proofs.Ytkmocajeknafbaa.meterDense
open Go.ChangeShapes Go.WideShapes Go.ChangeAt Go.RowKit Go.Proofs.Ytkmocajeknafbaa.Opens Go.Proofs.Ytkmocajeknafbaa.PMeterDense Go.Proofs.YtkmocajeknafbaaW.PrintWords
open Go.ChangeMaps (open_string shut_string)
set_option linter.unusedVariables false
theorem own : ownKnob Try.prog.godebug = none := by kernel_rfl
theorem laidOut : laidOutB Try.prog = true := by kernel_rfl
set_option maxRecDepth 100000 in
theorem lifted (os : Os) (started : os.Started) (H : Type) (enc : TypeId × Value → H) :
    ReturnsInHanded {} Try.checked os 7 .any (Rows.meterDenseSpec.pre6 enc Try.prog Try.f7 Rows.meterDenseRow.domain false) (Rows.meterDenseSpec.post enc Try.prog Try.f7 false true false false) := by
  refine returnsInHanded_of_change_sized (C := Try.checked) own started (by kernel_rfl) Try.func7
    (ChangeSpec.witness6 (enc := enc) (C := Try.checked) false ⟨#[], #[.slice none 0 0, .int .i64 0, .slice none 0 0, .slice none 0 0], []⟩ 8 (by kernel_rfl) (by kernel_rfl) (by kernel_rfl) (by kernel_rfl)) ?_
  intro W base args ds gs before hval0 hW hcnd hsz0 _
  have hsz : (DataW.weightsEach Try.prog (Try.f7.params.toList ++ Rows.meterDenseSpec.plain.varTypes Try.prog) (ds ++ gs)).all (· ≤ reachBytes) = true := hsz0
  have hval : ∀ (j : Nat) t v, Try.f7.params[j]? = some t → args[j]? = some v → Value.okWide Try.prog W .any base t v := hval0
  have hW' := hW
  obtain ⟨p, q, hA0, hV, rfl, hfz, hnd⟩ := hW
  have hA : DataW.TrodAll enc Try.prog W 0 (fun _ => true) true Try.f7.params.toList args.toList ds p := hA0
  rw [Try.params7] at hA hval hsz
  obtain ⟨v0, vs0, d0, ds0, p0, q0, hargs, rfl, rfl, h0, r0⟩ := trodAll_cons hA
  obtain ⟨v1, vs1, d1, ds1, p1, q1, rfl, rfl, rfl, h1, r1⟩ := trodAll_cons r0
  obtain ⟨v2, vs2, d2, ds2, p2, q2, rfl, rfl, rfl, h2, r2⟩ := trodAll_cons r1
  obtain ⟨v3, vs3, d3, ds3, p3, q3, rfl, rfl, rfl, h3, r3⟩ := trodAll_cons r2
  obtain ⟨rfl, rfl, rfl⟩ := trodAll_nil r3
  obtain rfl : args = #[v0, v1, v2, v3] := by cases args; simp_all
  obtain ⟨rfl, rfl⟩ := trodVars_none hV
  have k0 := h0
  have lt0 : ∀ x ∈ p0, x.block < W.heap.size := by obtain ⟨m, hm⟩ := k0; exact DataW.trod_lt m _ _ _ hm
  obtain ⟨A0, len0, c0, rfl⟩ := okWide_slice Try.underlying23 (hval 0 23 v0 rfl rfl)
  have y0 := Opens.sized_slice Try.underlying23 hsz (j := 0) (t := 23) rfl rfl (B := 8) (by kernel_rfl) h0
  obtain ⟨a0, rfl, hc0, hr0, hm0, hg0⟩ := open_arg_slice Try.underlying23 (by kernel_rfl) (opens_int Try.underlying3 (by kernel_rfl)) h0
  have k1 := h1
  have lt1 : ∀ x ∈ p1, x.block < W.heap.size := by obtain ⟨m, hm⟩ := k1; exact DataW.trod_lt m _ _ _ hm
  obtain ⟨a1, rfl, rfl, rfl, w1⟩ := open_int Try.underlying3 (hval 1 3 v1 rfl rfl) h1
  have k2 := h2
  have lt2 : ∀ x ∈ p2, x.block < W.heap.size := by obtain ⟨m, hm⟩ := k2; exact DataW.trod_lt m _ _ _ hm
  obtain ⟨A2, len2, c2, rfl⟩ := okWide_slice Try.underlying23 (hval 2 23 v2 rfl rfl)
  have y2 := Opens.sized_slice Try.underlying23 hsz (j := 2) (t := 23) rfl rfl (B := 8) (by kernel_rfl) h2
  obtain ⟨a2, rfl, hc2, hr2, hm2, hg2⟩ := open_arg_slice Try.underlying23 (by kernel_rfl) (opens_int Try.underlying3 (by kernel_rfl)) h2
  have k3 := h3
  have lt3 : ∀ x ∈ p3, x.block < W.heap.size := by obtain ⟨m, hm⟩ := k3; exact DataW.trod_lt m _ _ _ hm
  obtain ⟨A3, len3, c3, rfl⟩ := okWide_slice Try.underlying36 (hval 3 36 v3 rfl rfl)
  have y3 := Opens.sized_slice Try.underlying36 hsz (j := 3) (t := 36) rfl rfl (B := 16) (by kernel_rfl) h3
  obtain ⟨a3, rfl, hc3, hr3, hm3, hg3⟩ := open_arg_slice Try.underlying36 (by kernel_rfl) (show Opens Try.prog k45 45 _ from opens_struct (fun b_ => ⟨b_.1, b_.2⟩) (fun _ => rfl) Try.underlying45 (by kernel_rfl) (opensF_cons (opens_int Try.underlying3 (by kernel_rfl)) (opensF_one (opens_int Try.underlying5 (by kernel_rfl))))) h3
  clear hA0 hval0 hsz0 hsz
  have h := Pure.MeterDense a0 a1 a2 a3 hm0 y0 hg0 w1 hm2 y2 hg2 hm3 y3 hg3
  refine (seinelaw05_MeterDense.calls A0 c0 a0 a1 A2 c2 a2 A3 c3 a3 true W hr0 hc0 hr2 hc2 hr3 hc3 h).mono fun e W' ⟨he, bel0⟩ => ?_
  have bel : Below W.heap.size W W' := bel0
  subst he
  exact ⟨_, rfl, _, _, _, [], _, [], hW', trodAll_mk1 (shut_bool Try.underlying4 _), (trodAll_cons_mk (Below.trod laidOut (by kernel_rfl) (of_decide_eq_true (by kernel_rfl)) k0 bel lt0) (trodAll_cons_mk (shut_int Try.underlying3 w1) (trodAll_cons_mk (Below.trod laidOut (by kernel_rfl) (of_decide_eq_true (by kernel_rfl)) k2 bel lt2) (trodAll_cons_mk (Below.trod laidOut (by kernel_rfl) (of_decide_eq_true (by kernel_rfl)) k3 bel lt3) trodAll_mk0)))), rfl, bel.frame _, fun h => by cases h⟩
theorem over : Rows.meterDenseRow.holds Try.pinned (OpenSpec.ofChange Rows.meterDenseSpec) :=
  OpenClaim.holds_of_wide 7 Try.f7 rfl rfl rfl rfl rfl rfl rfl ⟨rfl, rfl, rfl, rfl, rfl⟩ rfl rfl rfl rfl rfl (by kernel_rfl) Try.func7 (by kernel_rfl)
    (of_decide_eq_true (by kernel_rfl)) (by unfold Func.isWrapper; first | (rw [if_pos (by decide +kernel)]; kernel_rfl) | (rw [if_neg (by decide +kernel)]; exact ⟨rfl, rfl⟩))
    (fun os started H enc _ => lifted os started H enc)
theorem proved : Rows.MeterDenseSaid := over
#print axioms proved
end Go.Proofs.Ytkmocajeknafbaa.meterDense
namespace Go.Proofs.Ytkmocajeknafbaa
/-- The row, under a short name, for the claim. -/
theorem meterDense_holds : Rows.MeterDenseSaid := meterDense.proved
end Go.Proofs.Ytkmocajeknafbaa
