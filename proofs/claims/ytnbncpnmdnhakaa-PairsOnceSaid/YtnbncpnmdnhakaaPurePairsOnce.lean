/- PairsOnce: what is sorted rises, has each pair that was there, and no other one, and is the same sorted once more, or with itself. For every list; no condition. -/
import Derived.Test.YtnbncpnmdnhakaaStatPairsOnce
import Derived.Test.YtnbncpnmdnhakaaPrsPairsOnce
namespace Go.Proofs.Ytnbncpnmdnhakaa.Pure
open Go.RowKit Go.Proofs.Ytnbncpnmdnhakaa.PPairsOnce Go.Proofs.YtnbncpnmdnhakaaW.PrintWords Go.Proofs.YtnbncpnmdnhakaaW.PrintLast Go.Proofs.Ytnbncpnmdnhakaa.Aid Go.Proofs.Ytnbncpnmdnhakaa.OrdPairsOnce

theorem merge_f (a b : List PP) (h : (a.length + b.length) * 16 ≤ 140737488355328) : pairs_Merge.f a b = some (joinL (sortL a) (sortL b) []) := by
  unfold pairs_Merge.f; rw [if_pos h]
theorem merge_mem (a b : List PP) (p : PP) : p ∈ joinL (sortL a) (sortL b) [] ↔ p ∈ a ∨ p ∈ b := by
  rw [(join_nil (sort_srt a) (sort_srt b)).2, sort_mem, sort_mem]
theorem len_le {a : List PP} : ∀ {b : List PP}, Srt a → (∀ p, p ∈ a → p ∈ b) → a.length ≤ b.length := by
  induction a with
  | nil => intro b _ _; exact Nat.zero_le _
  | cons x a ih =>
    intro b ha h
    have hs := List.pairwise_cons.mp ha
    have hx : x ∈ b := h x (by simp)
    have hp := List.length_pos_of_mem hx
    have he := List.length_erase_of_mem hx
    have := ih (b := b.erase x) hs.2 (fun p hp => (List.mem_erase_of_ne (fun e => lt_irr x (by have := hs.1 p hp; rwa [e] at this))).mpr (h p (List.mem_cons_of_mem _ hp)))
    rw [List.length_cons]
    omega
theorem eq_b2 (a b : PP) : ((a.f0 == b.f0) && (a.f1 == b.f1)) = decide (a = b) := by
  by_cases h : a = b
  · subst h; simp
  · by_cases h0 : a.f0 = b.f0
    · have h1 : ¬ a.f1 = b.f1 := fun h1 => h (pp_ext h0 h1)
      simp [h0, h1, h]
    · simp [h0, h]
/-- one place of the sorted list after the other -/
theorem l2_all (l x : List PP) (hx : x.length ≤ 1000) (hl : l.length ≤ 1000) (hm : ∀ p ∈ x, p ∈ l) (d : Nat) : ∀ n : Nat, n + d = x.length →
    Ev (fun k => seinelaw03_PairsOnce.l2 k l x (n : Int)) true := by
  induction d with
  | zero =>
    intro n hn
    refine Ev.succ ?_
    simp only [seinelaw03_PairsOnce.l2]
    simp only [if_neg (show ¬ (n : Int) < (x.length : Int) by omega)]
    exact Ev.const rfl
  | succ d ih =>
    intro n hn
    refine Ev.succ ?_
    simp only [seinelaw03_PairsOnce.l2]
    simp only [if_pos (show (n : Int) < (x.length : Int) by omega)]
    have hk : ∀ e : Nat, ∀ i : Nat, i + e = l.length → ∀ is : Bool, (is = true ∨ x[n] ∈ l.drop i) → Ev (fun k => seinelaw03_PairsOnce.l3 k l x (n : Int) is (i : Int)) true := by
      intro e
      induction e with
      | zero =>
        intro i hi is his
        have h1 : is = true := by
          rcases his with h | h
          · exact h
          · rw [List.drop_of_length_le (by omega)] at h; cases h
        subst h1
        refine Ev.succ ?_
        simp only [seinelaw03_PairsOnce.l3]
        simp only [if_neg (show ¬ (i : Int) < (l.length : Int) by omega), if_true, w64 (show -9223372036854775808 ≤ (n : Int) + 1 by omega) (show (n : Int) + 1 ≤ 9223372036854775807 by omega)]
        exact ih (n + 1) (by omega)
      | succ e ihe =>
        intro i hi is his
        refine Ev.succ ?_
        simp only [seinelaw03_PairsOnce.l3]
        simp only [if_pos (show (i : Int) < (l.length : Int) by omega), if_pos (show (0 : Int) ≤ (n : Int) by omega), if_pos (show (n : Int) < (x.length : Int) by omega), if_pos (show (0 : Int) ≤ (i : Int) by omega), rdP_nat x n (by omega), rdP_nat l i (by omega), eq_b2, w64 (show -9223372036854775808 ≤ (i : Int) + 1 by omega) (show (i : Int) + 1 ≤ 9223372036854775807 by omega)]
        cases is
        · simp only [Bool.false_eq_true, if_false]
          refine ihe (i + 1) (by omega) _ ?_
          rcases his with h | h
          · cases h
          · rw [List.drop_eq_getElem_cons (by omega)] at h
            rcases List.mem_cons.mp h with h | h
            · exact .inl (decide_eq_true h)
            · exact .inr h
        · simp only [if_true]
          exact ihe (i + 1) (by omega) _ (.inl rfl)
    exact hk l.length 0 (by omega) false (.inr (hm _ (List.getElem_mem _)))
theorem l0_all (l x : List PP) (hx : x.length ≤ 1000) (hl : l.length ≤ 1000) (hm : ∀ p ∈ x, p ∈ l) (hm' : ∀ p ∈ l, p ∈ x) (d : Nat) : ∀ n : Nat, n + d = l.length →
    Ev (fun k => seinelaw03_PairsOnce.l0 k l x (n : Int)) true := by
  induction d with
  | zero =>
    intro n hn
    refine Ev.succ ?_
    simp only [seinelaw03_PairsOnce.l0]
    simp only [if_neg (show ¬ (n : Int) < (l.length : Int) by omega)]
    exact l2_all l x hx hl hm x.length 0 (by omega)
  | succ d ih =>
    intro n hn
    refine Ev.succ ?_
    simp only [seinelaw03_PairsOnce.l0]
    simp only [if_pos (show (n : Int) < (l.length : Int) by omega)]
    have hk : ∀ e : Nat, ∀ i : Nat, i + e = x.length → ∀ is : Bool, (is = true ∨ l[n] ∈ x.drop i) → Ev (fun k => seinelaw03_PairsOnce.l1 k l x (n : Int) is (i : Int)) true := by
      intro e
      induction e with
      | zero =>
        intro i hi is his
        have h1 : is = true := by
          rcases his with h | h
          · exact h
          · rw [List.drop_of_length_le (by omega)] at h; cases h
        subst h1
        refine Ev.succ ?_
        simp only [seinelaw03_PairsOnce.l1]
        simp only [if_neg (show ¬ (i : Int) < (x.length : Int) by omega), if_true, w64 (show -9223372036854775808 ≤ (n : Int) + 1 by omega) (show (n : Int) + 1 ≤ 9223372036854775807 by omega)]
        exact ih (n + 1) (by omega)
      | succ e ihe =>
        intro i hi is his
        refine Ev.succ ?_
        simp only [seinelaw03_PairsOnce.l1]
        simp only [if_pos (show (i : Int) < (x.length : Int) by omega), if_pos (show (0 : Int) ≤ (n : Int) by omega), if_pos (show (n : Int) < (l.length : Int) by omega), if_pos (show (0 : Int) ≤ (i : Int) by omega), rdP_nat l n (by omega), rdP_nat x i (by omega), eq_b2, w64 (show -9223372036854775808 ≤ (i : Int) + 1 by omega) (show (i : Int) + 1 ≤ 9223372036854775807 by omega)]
        cases is
        · simp only [Bool.false_eq_true, if_false]
          refine ihe (i + 1) (by omega) _ ?_
          rcases his with h | h
          · cases h
          · rw [List.drop_eq_getElem_cons (by omega)] at h
            rcases List.mem_cons.mp h with h | h
            · exact .inl (decide_eq_true h.symm)
            · exact .inr h
        · simp only [if_true]
          exact ihe (i + 1) (by omega) _ (.inl rfl)
    exact hk x.length 0 (by omega) false (.inr (hm' _ (List.getElem_mem _)))

theorem PairsOnce : Go.Proofs.Ytnbncpnmdnhakaa.StatPairsOnce.Pure := by
  intro l _ _ _
  refine Ev.rounds (g := fun k => _) (r := true) ?_
  unfold seinelaw03_PairsOnce.f
  refine Ev.bind awake_ev ?_
  simp only [if_true]
  by_cases h1 : (l.length : Int) > 60
  · simp only [if_pos h1]; exact Ev.const rfl
  have hs := sort_srt l
  have hle : (sortL l).length ≤ l.length := len_le hs (fun p hp => (sort_mem l p).mp hp)
  have hss := sort_of_srt hs
  have hj : joinL (sortL l) (sortL (sortL l)) [] = sortL l := by
    refine srt_one (join_nil (sort_srt _) (sort_srt _)).1 (sort_srt _) (fun p => ?_)
    rw [merge_mem, sort_mem]; simp
  simp only [if_neg h1, sort_f l (show l.length ≤ 1000 by omega), Option.bind_some]
  refine Ev.bind (rising_f _ (by omega)) ?_
  simp only [decide_eq_true hs, if_true, sort_f _ (show (sortL l).length ≤ 1000 by omega), Option.bind_some, hss]
  refine Ev.bind (same_t _ (by omega)) ?_
  simp only [if_true, merge_f l (sortL l) (by omega), Option.bind_some, hj]
  refine Ev.bind (same_t _ (by omega)) ?_
  simp only [if_true, decide_eq_false (show ¬ ((sortL l).length : Int) > (l.length : Int) by omega)]
  refine Ev.succ ?_
  simp only [seinelaw03_PairsOnce.j0, Bool.false_eq_true, if_false]
  exact l0_all l (sortL l) (by omega) (by omega) (fun p hp => (sort_mem l p).mp hp) (fun p hp => (sort_mem l p).mpr hp) l.length 0 (by omega)

end Go.Proofs.Ytnbncpnmdnhakaa.Pure
