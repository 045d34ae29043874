/- PairsOrder: of any two pairs just one is ahead, or they are the same; being ahead is handed on. For every three pairs; no condition. -/
import Derived.Test.YtnbncpnmdnhakaaStatPairsOrder
import Derived.Test.YtnbncpnmdnhakaaPrsPairsOrder
namespace Go.Proofs.Ytnbncpnmdnhakaa.Pure
open Go.RowKit Go.Proofs.Ytnbncpnmdnhakaa.PPairsOrder Go.Proofs.YtnbncpnmdnhakaaW.PrintWords Go.Proofs.YtnbncpnmdnhakaaW.PrintLast Go.Proofs.Ytnbncpnmdnhakaa.Aid Go.Proofs.Ytnbncpnmdnhakaa.OrdPairsOrder

instance decLt (a b : PP) : Decidable (lt a b) := by unfold lt; infer_instance
theorem less_ff (a b : PP) : pairs_Less.f a.f0 a.f1 b.f0 b.f1 = some (decide (lt a b)) := by
  rw [less_f]; by_cases h : lt a b
  · rw [decide_eq_true h, show lessB a b = true from h]
  · rw [decide_eq_false h, Bool.eq_false_iff.mpr (show lessB a b ≠ true from h)]
theorem srt_two (a b : PP) : Srt [a, b] ↔ lt a b := by
  unfold Srt; simp
theorem last (a b c : PP) (h : lt a b → lt b c → lt a c) : Ev (fun k => seinelaw03_PairsOrder.j2 k 1 a.f0 a.f1 b.f0 b.f1 c.f0 c.f1) true := by
  have hr : Ev (fun k => (pairs_Rising.f k (([a, b] : List S23))).bind fun t150 => (some (t150 == decide (lt a b)))) true := by
    refine Ev.bind (rising_f [a, b] (by simp)) (Ev.const ?_)
    by_cases hl : lt a b
    · rw [decide_eq_true hl, decide_eq_true ((srt_two a b).mpr hl)]; rfl
    · rw [decide_eq_false hl, decide_eq_false (fun h => hl ((srt_two a b).mp h))]; rfl
  refine Ev.succ ?_
  simp only [seinelaw03_PairsOrder.j2]
  simp only [if_true, less_ff, Option.bind_some, decide_eq_true_eq]
  by_cases h1 : lt a b
  · simp only [if_pos h1]
    by_cases h2 : lt b c
    · simp only [if_pos h2, if_pos (h h1 h2)]; exact hr
    · simp only [if_neg h2]; exact hr
  · simp only [if_neg h1]; exact hr

theorem PairsOrder : Go.Proofs.Ytnbncpnmdnhakaa.StatPairsOrder.Pure := by
  intro a b c _ _ _
  refine Ev.rounds (g := fun k => _) (r := true) ?_
  unfold seinelaw03_PairsOrder.f
  refine Ev.bind awake_ev ?_
  simp only [if_true, less_ff, Option.bind_some, decide_eq_true_eq]
  have key : ∀ x : Int, x = (if lt a b then 1 else 0) → Ev (fun k => seinelaw03_PairsOrder.j0 k x a.f0 a.f1 b.f0 b.f1 c.f0 c.f1) true := by
    intro x hx
    have hL := last a b c lt_tr
    refine Ev.succ ?_
    simp only [seinelaw03_PairsOrder.j0, less_ff, Option.bind_some, decide_eq_true_eq]
    have k1 : ∀ y : Int, y = (if lt a b then 1 else 0) + (if lt b a then 1 else 0) → Ev (fun k => seinelaw03_PairsOrder.j1 k y a.f0 a.f1 b.f0 b.f1 c.f0 c.f1) true := by
      intro y hy
      refine Ev.succ ?_
      simp only [seinelaw03_PairsOrder.j1]
      by_cases he : a = b
      · subst he
        simp only [if_neg (lt_irr a)] at hy
        subst hy
        simp only [beq_self_eq_true, Bool.and_self, if_true, w64 (show -9223372036854775808 ≤ (0 : Int) + 0 + 1 by omega) (show (0 : Int) + 0 + 1 ≤ 9223372036854775807 by omega)]
        exact hL
      · have hb : (a.f0 == b.f0 && (a.f1 == b.f1)) = false := by
          rw [Bool.and_eq_false_iff]
          by_cases h0 : a.f0 = b.f0
          · exact .inr (beq_eq_false_iff_ne.mpr (fun h1 => he (pp_ext h0 h1)))
          · exact .inl (beq_eq_false_iff_ne.mpr h0)
        simp only [hb, Bool.false_eq_true, if_false]
        rcases lt_tot a b with h | h | h
        · exact absurd h he
        · rw [if_pos h, if_neg (lt_asym h)] at hy; subst hy; exact hL
        · rw [if_pos h, if_neg (lt_asym h)] at hy; subst hy; exact hL
    by_cases h2 : lt b a
    · simp only [if_pos h2]
      refine k1 _ ?_
      rw [if_pos h2, hx]
      split <;> exact w64 (by omega) (by omega)
    · simp only [if_neg h2]
      refine k1 _ ?_
      rw [if_neg h2, hx]; exact (Int.add_zero _).symm
  by_cases h1 : lt a b
  · simp only [if_pos h1]; exact key _ (by rw [if_pos h1]; rfl)
  · simp only [if_neg h1]; exact key _ (by rw [if_neg h1])

end Go.Proofs.Ytnbncpnmdnhakaa.Pure
