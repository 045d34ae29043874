/- FoldRaw: Whatever four numbers a set is: its bytes rise, are as many as are told, and are just those that are in it; the set of them is it (no reference). Proved for every input, without a condition. The row was laid by a program of this session (xrow.py). -/
import Derived.Test.YtaegjpabkkoleaaRows
import Derived.Test.YtaegjpabkkoleaaPFoldRawx4
import Derived.Test.YtaegjpabkkoleaaPureFoldRaw
import Derived.Test.YtaegjpabkkoleaaOpens
import Derived.WalkKit
import Derived.ProofKit
import Derived.OpenShut
import Derived.ShutString
import Derived.ChangeOld
import Derived.Below
import Derived.SizedLaws
namespace Go.Proofs.Ytaegjpabkkoleaa.foldRaw
open Go.ChangeShapes Go.WideShapes Go.ChangeAt Go.RowKit Go.Proofs.Ytaegjpabkkoleaa.Opens Go.Proofs.Ytaegjpabkkoleaa.PFoldRaw Go.Proofs.YtaegjpabkkoleaaW.PrintWords
open Go.ChangeMaps (open_string shut_string)
set_option linter.unusedVariables false
theorem own : ownKnob Try.prog.godebug = none := by kernel_rfl
theorem laidOut : laidOutB Try.prog = true := by kernel_rfl
set_option maxRecDepth 100000 in
theorem lifted (os : Os) (started : os.Started) (H : Type) (enc : TypeId × Value → H) :
    ReturnsInHanded {} Try.checked os 8 .any (Rows.foldRawSpec.pre6 enc Try.prog Try.f8 Rows.foldRawRow.domain false) (Rows.foldRawSpec.post enc Try.prog Try.f8 false true false false) := by
  refine returnsInHanded_of_change_sized (C := Try.checked) own started (by kernel_rfl) Try.func8
    (ChangeSpec.witness6 (enc := enc) (C := Try.checked) false ⟨#[], #[.agg #[.int .u64 0, .int .u64 0, .int .u64 0, .int .u64 0], .int .u8 0], []⟩ 8 (by kernel_rfl) (by kernel_rfl) (by kernel_rfl) (by kernel_rfl)) ?_
  intro W base args ds gs before hval0 hW hcnd hsz0 _
  have hsz : (DataW.weightsEach Try.prog (Try.f8.params.toList ++ Rows.foldRawSpec.plain.varTypes Try.prog) (ds ++ gs)).all (· ≤ reachBytes) = true := hsz0
  have hval : ∀ (j : Nat) t v, Try.f8.params[j]? = some t → args[j]? = some v → Value.okWide Try.prog W .any base t v := hval0
  have hW' := hW
  obtain ⟨p, q, hA0, hV, rfl, hfz, hnd⟩ := hW
  have hA : DataW.TrodAll enc Try.prog W 0 (fun _ => true) true Try.f8.params.toList args.toList ds p := hA0
  rw [Try.params8] at hA hval hsz
  obtain ⟨v0, vs0, d0, ds0, p0, q0, hargs, rfl, rfl, h0, r0⟩ := trodAll_cons hA
  obtain ⟨v1, vs1, d1, ds1, p1, q1, rfl, rfl, rfl, h1, r1⟩ := trodAll_cons r0
  obtain ⟨rfl, rfl, rfl⟩ := trodAll_nil r1
  obtain rfl : args = #[v0, v1] := by cases args; simp_all
  obtain ⟨rfl, rfl⟩ := trodVars_none hV
  have k0 := h0
  have lt0 : ∀ x ∈ p0, x.block < W.heap.size := by obtain ⟨m, hm⟩ := k0; exact DataW.trod_lt m _ _ _ hm
  obtain ⟨a0, cs0, rfl, hK0, hg0⟩ := open_arg_array Try.underlying31 (show Opens Try.prog k31 31 _ from opens_array (fs := [aF 29 0, aF 29 1, aF 29 2, aF 29 3]) (fun b_ => ⟨b_.1, b_.2.1, b_.2.2.1, b_.2.2.2⟩) (fun _ => rfl) Try.underlying31 (by kernel_rfl) (by kernel_rfl) (by rfl) (opensF_cons (opens_int Try.underlying29 (by kernel_rfl)) (opensF_cons (opens_int Try.underlying29 (by kernel_rfl)) (opensF_cons (opens_int Try.underlying29 (by kernel_rfl)) (opensF_one (opens_int Try.underlying29 (by kernel_rfl))))))) (hval 0 31 v0 rfl rfl) h0
  obtain rfl := k31_open hK0
  have k1 := h1
  have lt1 : ∀ x ∈ p1, x.block < W.heap.size := by obtain ⟨m, hm⟩ := k1; exact DataW.trod_lt m _ _ _ hm
  obtain ⟨a1, rfl, rfl, rfl, w1⟩ := open_int Try.underlying5 (hval 1 5 v1 rfl rfl) h1
  clear hA0 hval0 hsz0 hsz
  obtain ⟨k, h⟩ := Pure.FoldRaw a0 a1 hg0 w1
  refine (seinelaw01_FoldRaw.calls k (a0.f0) (a0.f1) (a0.f2) (a0.f3) a1 true W h).mono fun e W' ⟨he, bel0⟩ => ?_
  have bel : Below W.heap.size W W' := bel0
  subst he
  exact ⟨_, rfl, _, _, _, [], _, [], hW', trodAll_mk1 (shut_bool Try.underlying4 _), (trodAll_cons_mk (Below.trod laidOut (by kernel_rfl) (of_decide_eq_true (by kernel_rfl)) k0 bel lt0) (trodAll_cons_mk (shut_int Try.underlying5 w1) trodAll_mk0)), rfl, bel.frame _, fun h => by cases h⟩
theorem over : Rows.foldRawRow.holds Try.pinned (OpenSpec.ofChange Rows.foldRawSpec) :=
  OpenClaim.holds_of_wide 8 Try.f8 rfl rfl rfl rfl rfl rfl rfl ⟨rfl, rfl, rfl, rfl, rfl⟩ rfl rfl rfl rfl rfl (by kernel_rfl) Try.func8 (by kernel_rfl)
    (of_decide_eq_true (by kernel_rfl)) (by unfold Func.isWrapper; first | (rw [if_pos (by decide +kernel)]; kernel_rfl) | (rw [if_neg (by decide +kernel)]; exact ⟨rfl, rfl⟩))
    (fun os started H enc _ => lifted os started H enc)
theorem proved : Rows.FoldRawSaid := over
#print axioms proved
end Go.Proofs.Ytaegjpabkkoleaa.foldRaw
namespace Go.Proofs.Ytaegjpabkkoleaa
/-- The row, under a short name, for the claim. -/
theorem foldRaw_holds : Rows.FoldRawSaid := foldRaw.proved
end Go.Proofs.Ytaegjpabkkoleaa
