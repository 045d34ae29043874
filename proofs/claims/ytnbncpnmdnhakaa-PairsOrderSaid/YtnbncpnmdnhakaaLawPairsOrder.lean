/- PairsOrder: Of any two pairs just one is ahead, or they are the same; being ahead is handed on (no reference). Proved for every input, without a condition. The row was laid by a program of this session (xrow.py). -/
import Derived.Test.YtnbncpnmdnhakaaRows
import Derived.Test.YtnbncpnmdnhakaaPPairsOrderx5
import Derived.Test.YtnbncpnmdnhakaaPurePairsOrder
import Derived.Test.YtnbncpnmdnhakaaOpens
import Derived.WalkKit
import Derived.ProofKit
import Derived.OpenShut
import Derived.ShutString
import Derived.ChangeOld
import Derived.Below
import Derived.SizedLaws
namespace Go.Proofs.Ytnbncpnmdnhakaa.pairsOrder
open Go.ChangeShapes Go.WideShapes Go.ChangeAt Go.RowKit Go.Proofs.Ytnbncpnmdnhakaa.Opens Go.Proofs.Ytnbncpnmdnhakaa.PPairsOrder Go.Proofs.YtnbncpnmdnhakaaW.PrintWords
open Go.ChangeMaps (open_string shut_string)
set_option linter.unusedVariables false
theorem own : ownKnob Try.prog.godebug = none := by kernel_rfl
theorem laidOut : laidOutB Try.prog = true := by kernel_rfl
set_option maxRecDepth 100000 in
theorem lifted (os : Os) (started : os.Started) (H : Type) (enc : TypeId × Value → H) :
    ReturnsInHanded {} Try.checked os 3 .any (Rows.pairsOrderSpec.pre6 enc Try.prog Try.f3 Rows.pairsOrderRow.domain false) (Rows.pairsOrderSpec.post enc Try.prog Try.f3 false true false false) := by
  refine returnsInHanded_of_change_sized (C := Try.checked) own started (by kernel_rfl) Try.func3
    (ChangeSpec.witness6 (enc := enc) (C := Try.checked) false ⟨#[], #[.agg #[.int .i64 0, .int .i64 0], .agg #[.int .i64 0, .int .i64 0], .agg #[.int .i64 0, .int .i64 0]], []⟩ 8 (by kernel_rfl) (by kernel_rfl) (by kernel_rfl) (by kernel_rfl)) ?_
  intro W base args ds gs before hval0 hW hcnd hsz0 _
  have hsz : (DataW.weightsEach Try.prog (Try.f3.params.toList ++ Rows.pairsOrderSpec.plain.varTypes Try.prog) (ds ++ gs)).all (· ≤ reachBytes) = true := hsz0
  have hval : ∀ (j : Nat) t v, Try.f3.params[j]? = some t → args[j]? = some v → Value.okWide Try.prog W .any base t v := hval0
  have hW' := hW
  obtain ⟨p, q, hA0, hV, rfl, hfz, hnd⟩ := hW
  have hA : DataW.TrodAll enc Try.prog W 0 (fun _ => true) true Try.f3.params.toList args.toList ds p := hA0
  rw [Try.params3] at hA hval hsz
  obtain ⟨v0, vs0, d0, ds0, p0, q0, hargs, rfl, rfl, h0, r0⟩ := trodAll_cons hA
  obtain ⟨v1, vs1, d1, ds1, p1, q1, rfl, rfl, rfl, h1, r1⟩ := trodAll_cons r0
  obtain ⟨v2, vs2, d2, ds2, p2, q2, rfl, rfl, rfl, h2, r2⟩ := trodAll_cons r1
  obtain ⟨rfl, rfl, rfl⟩ := trodAll_nil r2
  obtain rfl : args = #[v0, v1, v2] := by cases args; simp_all
  obtain ⟨rfl, rfl⟩ := trodVars_none hV
  have k0 := h0
  have lt0 : ∀ x ∈ p0, x.block < W.heap.size := by obtain ⟨m, hm⟩ := k0; exact DataW.trod_lt m _ _ _ hm
  obtain ⟨a0, cs0, rfl, hK0, hg0⟩ := open_arg_struct Try.underlying23 (show Opens Try.prog k23 23 _ from opens_struct (fun b_ => ⟨b_.1, b_.2⟩) (fun _ => rfl) Try.underlying23 (by kernel_rfl) (opensF_cons (opens_int Try.underlying3 (by kernel_rfl)) (opensF_one (opens_int Try.underlying3 (by kernel_rfl))))) (hval 0 23 v0 rfl rfl) h0
  obtain rfl := k23_open hK0
  have k1 := h1
  have lt1 : ∀ x ∈ p1, x.block < W.heap.size := by obtain ⟨m, hm⟩ := k1; exact DataW.trod_lt m _ _ _ hm
  obtain ⟨a1, cs1, rfl, hK1, hg1⟩ := open_arg_struct Try.underlying23 (show Opens Try.prog k23 23 _ from opens_struct (fun b_ => ⟨b_.1, b_.2⟩) (fun _ => rfl) Try.underlying23 (by kernel_rfl) (opensF_cons (opens_int Try.underlying3 (by kernel_rfl)) (opensF_one (opens_int Try.underlying3 (by kernel_rfl))))) (hval 1 23 v1 rfl rfl) h1
  obtain rfl := k23_open hK1
  have k2 := h2
  have lt2 : ∀ x ∈ p2, x.block < W.heap.size := by obtain ⟨m, hm⟩ := k2; exact DataW.trod_lt m _ _ _ hm
  obtain ⟨a2, cs2, rfl, hK2, hg2⟩ := open_arg_struct Try.underlying23 (show Opens Try.prog k23 23 _ from opens_struct (fun b_ => ⟨b_.1, b_.2⟩) (fun _ => rfl) Try.underlying23 (by kernel_rfl) (opensF_cons (opens_int Try.underlying3 (by kernel_rfl)) (opensF_one (opens_int Try.underlying3 (by kernel_rfl))))) (hval 2 23 v2 rfl rfl) h2
  obtain rfl := k23_open hK2
  clear hA0 hval0 hsz0 hsz
  obtain ⟨k, h⟩ := Pure.PairsOrder a0 a1 a2 hg0 hg1 hg2
  refine (seinelaw03_PairsOrder.calls k (a0.f0) (a0.f1) (a1.f0) (a1.f1) (a2.f0) (a2.f1) true W h).mono fun e W' ⟨he, bel0⟩ => ?_
  have bel : Below W.heap.size W W' := bel0
  subst he
  exact ⟨_, rfl, _, _, _, [], _, [], hW', trodAll_mk1 (shut_bool Try.underlying4 _), (trodAll_cons_mk (Below.trod laidOut (by kernel_rfl) (of_decide_eq_true (by kernel_rfl)) k0 bel lt0) (trodAll_cons_mk (Below.trod laidOut (by kernel_rfl) (of_decide_eq_true (by kernel_rfl)) k1 bel lt1) (trodAll_cons_mk (Below.trod laidOut (by kernel_rfl) (of_decide_eq_true (by kernel_rfl)) k2 bel lt2) trodAll_mk0))), rfl, bel.frame _, fun h => by cases h⟩
theorem over : Rows.pairsOrderRow.holds Try.pinned (OpenSpec.ofChange Rows.pairsOrderSpec) :=
  OpenClaim.holds_of_wide 3 Try.f3 rfl rfl rfl rfl rfl rfl rfl ⟨rfl, rfl, rfl, rfl, rfl⟩ rfl rfl rfl rfl rfl (by kernel_rfl) Try.func3 (by kernel_rfl)
    (of_decide_eq_true (by kernel_rfl)) (by unfold Func.isWrapper; first | (rw [if_pos (by decide +kernel)]; kernel_rfl) | (rw [if_neg (by decide +kernel)]; exact ⟨rfl, rfl⟩))
    (fun os started H enc _ => lifted os started H enc)
theorem proved : Rows.PairsOrderSaid := over
#print axioms proved
end Go.Proofs.Ytnbncpnmdnhakaa.pairsOrder
namespace Go.Proofs.Ytnbncpnmdnhakaa
/-- The row, under a short name, for the claim. -/
theorem pairsOrder_holds : Rows.PairsOrderSaid := pairsOrder.proved
end Go.Proofs.Ytnbncpnmdnhakaa
