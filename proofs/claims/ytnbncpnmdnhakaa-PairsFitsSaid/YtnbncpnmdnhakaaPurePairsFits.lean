/- PairsFits: whether any pairs are pieces of a line, and all empty pieces of it, are the document's. For every list and every number; no condition. -/
import Derived.Test.YtnbncpnmdnhakaaStatPairsFits
import Derived.Test.YtnbncpnmdnhakaaPrsPairsFits
namespace Go.Proofs.Ytnbncpnmdnhakaa.Pure
open Go.RowKit Go.Proofs.Ytnbncpnmdnhakaa.PPairsFits Go.Proofs.YtnbncpnmdnhakaaW.PrintWords Go.Proofs.YtnbncpnmdnhakaaW.PrintLast Go.Proofs.Ytnbncpnmdnhakaa.Aid Go.Proofs.Ytnbncpnmdnhakaa.OrdPairsFits

/-- the empty pieces up to a place -/
def emp (n : Nat) : List PP := (List.range n).map fun (i : Nat) => ⟨(i : Int), (i : Int)⟩
theorem emp_len (n : Nat) : (emp n).length = n := by unfold emp; rw [List.length_map, List.length_range]
theorem emp_succ (n : Nat) : emp (n + 1) = emp n ++ [⟨(n : Int), (n : Int)⟩] := by unfold emp; rw [List.range_succ, List.map_append]; rfl
theorem emp_get (n i : Nat) (h : i < (emp n).length) : (emp n)[i] = ⟨(i : Int), (i : Int)⟩ := by simp [emp]
theorem emp_srt (n : Nat) : Srt (emp n) := by
  induction n with
  | zero => exact List.Pairwise.nil
  | succ n ih =>
    rw [emp_succ]
    refine List.pairwise_append.mpr ⟨ih, List.pairwise_singleton _ _, fun p hp q hq => ?_⟩
    obtain rfl : q = ⟨(n : Int), (n : Int)⟩ := by simpa using hq
    unfold emp at hp
    obtain ⟨i, hi, rfl⟩ := List.mem_map.mp hp
    rw [List.mem_range] at hi
    rw [lt_iff]; left; show (i : Int) < (n : Int); omega
theorem emp_fit (n : Nat) (m : Int) (h : (n : Int) ≤ m + 1) : Fit (emp n) m := by
  intro p hp
  unfold emp at hp
  obtain ⟨i, hi, rfl⟩ := List.mem_map.mp hp
  rw [List.mem_range] at hi
  exact ⟨by show (0 : Int) ≤ (i : Int); omega, Int.le_refl _, by show (i : Int) ≤ m; omega⟩
theorem empties_loop (n : Int) (hn : n ≤ 1000) (d : Nat) : ∀ i : Nat, i + d = (n + 1).toNat →
    Ev (fun k => pairs_Empties.l0 k n (emp i) (i : Int)) (emp (n + 1).toNat) := by
  induction d with
  | zero =>
    intro i hi
    refine Ev.succ ?_
    simp only [pairs_Empties.l0]
    simp only [if_neg (show ¬ (i : Int) ≤ n by omega)]
    exact Ev.const (by rw [← hi]; rfl)
  | succ d ih =>
    intro i hi
    have := ih (i + 1) (by omega)
    rw [emp_succ] at this
    have hl := emp_len i
    refine Ev.succ ?_
    simp only [pairs_Empties.l0]
    simp only [if_pos (show (i : Int) ≤ n by omega), if_pos (show (emp i).length < 8796093022208 by omega), w64 (show -9223372036854775808 ≤ (i : Int) + 1 by omega) (show (i : Int) + 1 ≤ 9223372036854775807 by omega)]
    exact this
theorem empties_f (n : Int) (hn : n ≤ 1000) (h0 : -100000 ≤ n) : Ev (fun k => pairs_Empties.f k n) (emp (n + 1).toNat) := by
  by_cases h : 0 ≤ n + 1
  · exact empties_loop n hn (n + 1).toNat 0 (by omega)
  · have e : (n + 1).toNat = 0 := by omega
    rw [e]
    unfold pairs_Empties.f
    exact Ev.succ (by
      simp only [pairs_Empties.l0]
      simp only [if_neg (show ¬ (0 : Int) ≤ n by omega)]
      exact Ev.const rfl)
theorem l1_all (n : Int) (m : Nat) (hm : m ≤ 1000) (hn : (m : Int) ≤ n + 1) (hw : wrap64 n = n) (d : Nat) : ∀ i : Nat, i + d = m →
    Ev (fun k => seinelaw03_PairsFits.l1 k n (emp m) (i : Int)) true := by
  have hl := emp_len m
  induction d with
  | zero =>
    intro i hi
    refine Ev.succ ?_
    simp only [seinelaw03_PairsFits.l1]
    simp only [if_neg (show ¬ (i : Int) < ((emp m).length : Int) by omega), hw]
    refine Ev.bind (fits_f _ _ (by omega)) ?_
    simp only [decide_eq_true (emp_fit m n hn), if_true]
    refine Ev.bind (rising_f _ (by omega)) (Ev.const ?_)
    rw [decide_eq_true (emp_srt m)]
  | succ d ih =>
    intro i hi
    refine Ev.succ ?_
    simp only [seinelaw03_PairsFits.l1]
    simp only [if_pos (show (i : Int) < ((emp m).length : Int) by omega), if_pos (show (0 : Int) ≤ (i : Int) by omega), rdP_nat (emp m) i (by omega), emp_get m i (by omega), if_true, w64 (show -9223372036854775808 ≤ (i : Int) + 1 by omega) (show (i : Int) + 1 ≤ 9223372036854775807 by omega)]
    exact ih (i + 1) (by omega)
theorem fit_succ (l : List PP) (n : Int) (i : Nat) (h : i < l.length) : Fit (l.take (i + 1)) n ↔ Fit (l.take i) n ∧ (0 ≤ l[i].f0 ∧ l[i].f0 ≤ l[i].f1 ∧ l[i].f1 ≤ n) := by
  rw [List.take_succ_eq_append_getElem h]
  unfold Fit
  constructor
  · intro hf
    exact ⟨fun p hp => hf p (List.mem_append.mpr (.inl hp)), hf _ (List.mem_append.mpr (.inr (List.mem_singleton.mpr rfl)))⟩
  · rintro ⟨h1, h2⟩ p hp
    rcases List.mem_append.mp hp with hp | hp
    · exact h1 p hp
    · obtain rfl : p = l[i] := by simpa using hp
      exact h2
theorem l0_all (l : List PP) (n : Int) (hx : l.length ≤ 1000) (hn : n ≤ 400) (h0 : -100000 ≤ n) (d : Nat) : ∀ i : Nat, i + d = l.length → ∀ b : Bool, b = decide (Fit (l.take i) n) →
    Ev (fun k => seinelaw03_PairsFits.l0 k l n b (i : Int)) true := by
  have hw : wrap64 n = n := w64 (by omega) (by omega)
  have hw1 : wrap64 (n + 1) = n + 1 := w64 (by omega) (by omega)
  induction d with
  | zero =>
    intro i hi b hb
    rw [List.take_of_length_le (by omega)] at hb
    subst hb
    refine Ev.succ ?_
    simp only [seinelaw03_PairsFits.l0]
    simp only [if_neg (show ¬ (i : Int) < (l.length : Int) by omega), hw, hw1]
    refine Ev.bind (empties_f n (by omega) h0) ?_
    refine Ev.bind (fits_f l n (by omega)) ?_
    simp only [bne_self_eq_false, Bool.false_eq_true, if_false]
    have hl := emp_len (n + 1).toNat
    have hb : (((emp (n + 1).toNat).length : Int) != mx (n + 1) 0) = false := by
      rw [hl]
      simp only [bne_eq_false_iff_eq]
      unfold mx
      split <;> omega
    simp only [hb]
    refine Ev.succ ?_
    simp only [seinelaw03_PairsFits.j2, Bool.false_eq_true, if_false]
    by_cases h : 0 ≤ n + 1
    · exact l1_all n _ (by omega) (by omega) hw (n + 1).toNat 0 (by omega)
    · have e : (n + 1).toNat = 0 := by omega
      rw [e]
      refine Ev.succ ?_
      simp only [seinelaw03_PairsFits.l1]
      simp only [hw, if_neg (show ¬ (0 : Int) < ((emp 0).length : Int) by simp [emp])]
      refine Ev.bind (fits_f _ _ (by simp [emp])) ?_
      simp only [decide_eq_true (show Fit (emp 0) n by intro p hp; simp [emp] at hp), if_true]
      refine Ev.bind (rising_f _ (by simp [emp])) (Ev.const ?_)
      rw [decide_eq_true (emp_srt 0)]
  | succ d ih =>
    intro i hi b hb
    have hs := fit_succ l n i (by omega)
    refine Ev.succ ?_
    simp only [seinelaw03_PairsFits.l0]
    simp only [if_pos (show (i : Int) < (l.length : Int) by omega), if_pos (show (0 : Int) ≤ (i : Int) by omega), rdP_nat l i (by omega), hw, w64 (show -9223372036854775808 ≤ (i : Int) + 1 by omega) (show (i : Int) + 1 ≤ 9223372036854775807 by omega)]
    by_cases hf : Fit (l.take i) n
    · rw [decide_eq_true hf] at hb
      subst hb
      simp only [if_true]
      by_cases c1 : l[i].f0 ≥ 0
      · simp only [if_pos c1]
        by_cases c2 : l[i].f0 ≤ l[i].f1
        · simp only [if_pos c2]
          refine ih (i + 1) (by omega) _ (decide_eq_decide.mpr ?_)
          rw [hs]
          exact ⟨fun h => ⟨hf, c1, c2, h⟩, fun h => h.2.2.2⟩
        · simp only [if_neg c2]
          exact ih (i + 1) (by omega) _ (decide_eq_false (fun h => c2 (hs.mp h).2.2.1)).symm
      · simp only [if_neg c1]
        exact ih (i + 1) (by omega) _ (decide_eq_false (fun h => c1 (hs.mp h).2.1)).symm
    · rw [decide_eq_false hf] at hb
      subst hb
      simp only [Bool.false_eq_true, if_false]
      exact ih (i + 1) (by omega) _ (decide_eq_false (fun h => hf (hs.mp h).1)).symm

theorem PairsFits : Go.Proofs.Ytnbncpnmdnhakaa.StatPairsFits.Pure := by
  intro l n _ _ _ hn
  have hn' := wfi16 hn
  refine Ev.rounds (g := fun k => _) (r := true) ?_
  unfold seinelaw03_PairsFits.f
  refine Ev.bind awake_ev ?_
  simp only [if_true]
  have ht : Ev (fun k => seinelaw03_PairsFits.j0 k l n true) true := by
    refine Ev.succ ?_
    simp only [seinelaw03_PairsFits.j0, if_true]
    exact Ev.const rfl
  by_cases h1 : (l.length : Int) > 60
  · simp only [if_pos h1]; exact ht
  by_cases h2 : n > 400
  · simp only [if_neg h1, decide_eq_true h2]; exact ht
  simp only [if_neg h1, decide_eq_false h2]
  refine Ev.succ ?_
  simp only [seinelaw03_PairsFits.j0, Bool.false_eq_true, if_false]
  exact l0_all l n (by omega) (by omega) (by omega) l.length 0 (by omega) true (decide_eq_true (show Fit (l.take 0) n by intro p hp; simp at hp)).symm

end Go.Proofs.Ytnbncpnmdnhakaa.Pure
