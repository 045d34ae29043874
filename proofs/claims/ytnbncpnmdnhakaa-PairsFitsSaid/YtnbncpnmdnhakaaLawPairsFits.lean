/- PairsFits: Whether any pairs are pieces of a line, and all empty pieces of it, are the document's. Proved for every input, without a condition. The row was laid by a program of this session (xrow.py). -/
import Derived.Test.YtnbncpnmdnhakaaRows
import Derived.Test.YtnbncpnmdnhakaaPPairsFitsx5
import Derived.Test.YtnbncpnmdnhakaaPurePairsFits
import Derived.Test.YtnbncpnmdnhakaaOpens
import Derived.WalkKit
import Derived.ProofKit
import Derived.OpenShut
import Derived.ShutString
import Derived.ChangeOld
import Derived.Below
import Derived.SizedLaws
namespace Go.Proofs.Ytnbncpnmdnhakaa.pairsFits
open Go.ChangeShapes Go.WideShapes Go.ChangeAt Go.RowKit Go.Proofs.Ytnbncpnmdnhakaa.Opens Go.Proofs.Ytnbncpnmdnhakaa.PPairsFits Go.Proofs.YtnbncpnmdnhakaaW.PrintWords
open Go.ChangeMaps (open_string shut_string)
set_option linter.unusedVariables false
theorem own : ownKnob Try.prog.godebug = none := by kernel_rfl
theorem laidOut : laidOutB Try.prog = true := by kernel_rfl
set_option maxRecDepth 100000 in
theorem lifted (os : Os) (started : os.Started) (H : Type) (enc : TypeId × Value → H) :
    ReturnsInHanded {} Try.checked os 4 .any (Rows.pairsFitsSpec.pre6 enc Try.prog Try.f4 Rows.pairsFitsRow.domain false) (Rows.pairsFitsSpec.post enc Try.prog Try.f4 false true false false) := by
  refine returnsInHanded_of_change_sized (C := Try.checked) own started (by kernel_rfl) Try.func4
    (ChangeSpec.witness6 (enc := enc) (C := Try.checked) false ⟨#[], #[.slice none 0 0, .int .i16 0], []⟩ 8 (by kernel_rfl) (by kernel_rfl) (by kernel_rfl) (by kernel_rfl)) ?_
  intro W base args ds gs before hval0 hW hcnd hsz0 _
  have hsz : (DataW.weightsEach Try.prog (Try.f4.params.toList ++ Rows.pairsFitsSpec.plain.varTypes Try.prog) (ds ++ gs)).all (· ≤ reachBytes) = true := hsz0
  have hval : ∀ (j : Nat) t v, Try.f4.params[j]? = some t → args[j]? = some v → Value.okWide Try.prog W .any base t v := hval0
  have hW' := hW
  obtain ⟨p, q, hA0, hV, rfl, hfz, hnd⟩ := hW
  have hA : DataW.TrodAll enc Try.prog W 0 (fun _ => true) true Try.f4.params.toList args.toList ds p := hA0
  rw [Try.params4] at hA hval hsz
  obtain ⟨v0, vs0, d0, ds0, p0, q0, hargs, rfl, rfl, h0, r0⟩ := trodAll_cons hA
  obtain ⟨v1, vs1, d1, ds1, p1, q1, rfl, rfl, rfl, h1, r1⟩ := trodAll_cons r0
  obtain ⟨rfl, rfl, rfl⟩ := trodAll_nil r1
  obtain rfl : args = #[v0, v1] := by cases args; simp_all
  obtain ⟨rfl, rfl⟩ := trodVars_none hV
  have k0 := h0
  have lt0 : ∀ x ∈ p0, x.block < W.heap.size := by obtain ⟨m, hm⟩ := k0; exact DataW.trod_lt m _ _ _ hm
  obtain ⟨A0, len0, c0, rfl⟩ := okWide_slice Try.underlying27 (hval 0 27 v0 rfl rfl)
  have y0 := Opens.sized_slice Try.underlying27 hsz (j := 0) (t := 27) rfl rfl (B := 16) (by kernel_rfl) h0
  obtain ⟨a0, rfl, hc0, hr0, hm0, hg0⟩ := open_arg_slice Try.underlying27 (by kernel_rfl) (show Opens Try.prog k23 23 _ from opens_struct (fun b_ => ⟨b_.1, b_.2⟩) (fun _ => rfl) Try.underlying23 (by kernel_rfl) (opensF_cons (opens_int Try.underlying3 (by kernel_rfl)) (opensF_one (opens_int Try.underlying3 (by kernel_rfl))))) h0
  have k1 := h1
  have lt1 : ∀ x ∈ p1, x.block < W.heap.size := by obtain ⟨m, hm⟩ := k1; exact DataW.trod_lt m _ _ _ hm
  obtain ⟨a1, rfl, rfl, rfl, w1⟩ := open_int Try.underlying29 (hval 1 29 v1 rfl rfl) h1
  clear hA0 hval0 hsz0 hsz
  obtain ⟨k, h⟩ := Pure.PairsFits a0 a1 hm0 y0 hg0 w1
  refine (seinelaw03_PairsFits.calls k A0 c0 a0 a1 true W hr0 hc0 h).mono fun e W' ⟨he, bel0⟩ => ?_
  have bel : Below W.heap.size W W' := bel0
  subst he
  exact ⟨_, rfl, _, _, _, [], _, [], hW', trodAll_mk1 (shut_bool Try.underlying4 _), (trodAll_cons_mk (Below.trod laidOut (by kernel_rfl) (of_decide_eq_true (by kernel_rfl)) k0 bel lt0) (trodAll_cons_mk (shut_int Try.underlying29 w1) trodAll_mk0)), rfl, bel.frame _, fun h => by cases h⟩
theorem over : Rows.pairsFitsRow.holds Try.pinned (OpenSpec.ofChange Rows.pairsFitsSpec) :=
  OpenClaim.holds_of_wide 4 Try.f4 rfl rfl rfl rfl rfl rfl rfl ⟨rfl, rfl, rfl, rfl, rfl⟩ rfl rfl rfl rfl rfl (by kernel_rfl) Try.func4 (by kernel_rfl)
    (of_decide_eq_true (by kernel_rfl)) (by unfold Func.isWrapper; first | (rw [if_pos (by decide +kernel)]; kernel_rfl) | (rw [if_neg (by decide +kernel)]; exact ⟨rfl, rfl⟩))
    (fun os started H enc _ => lifted os started H enc)
theorem proved : Rows.PairsFitsSaid := over
#print axioms proved
end Go.Proofs.Ytnbncpnmdnhakaa.pairsFits
namespace Go.Proofs.Ytnbncpnmdnhakaa
/-- The row, under a short name, for the claim. -/
theorem pairsFits_holds : Rows.PairsFitsSaid := pairsFits.proved
end Go.Proofs.Ytnbncpnmdnhakaa
