/- Patterns, plain: none is empty, and how many bytes they have. -/
import Derived.Test.YtkpfnhkfecpefaaPatF
namespace Go.Proofs.Ytkpfnhkfecpefaa.Pat
open Go Go.RowKit Go.Proofs Go.Proofs.YtkpfnhkfecpefaaW.PrintWords Go.Proofs.YtkpfnhkfecpefaaW.PrintMore Go.Proofs.YtkpfnhkfecpefaaW.PrintLast Go.Proofs.Ytkpfnhkfecpefaa.Lin
set_option linter.unusedVariables false
set_option linter.unusedSimpArgs false
theorem of_pos : ∀ (L : List (List Int)) (s : PS), (∀ p ∈ s.l, 0 < p.length) → ∀ p ∈ (L.foldl addP s).l, 0 < p.length
  | [], s, h => h
  | b :: L, s, h => by
    rw [List.foldl_cons]
    refine of_pos L _ ?_
    unfold addP
    split
    · exact h
    · split
      · exact h
      · intro p hp
        rcases List.mem_append.mp hp with hp | hp
        · exact h p hp
        · rw [List.mem_singleton] at hp
          subst hp
          omega
theorem of_tot : ∀ (L : List (List Int)) (s : PS), totN (L.foldl addP s).l ≤ totN s.l + totN L
  | [], s => Nat.le_refl _
  | b :: L, s => by
    rw [List.foldl_cons, totN]
    have h := of_tot L (addP s b)
    have h2 : totN (addP s b).l ≤ totN s.l + b.length := by
      unfold addP
      split
      · exact Nat.le_add_right _ _
      · split
        · exact Nat.le_add_right _ _
        · show totN (s.l ++ [b]) ≤ _
          rw [totN_app]
          simp [totN]
    omega
theorem lines_tot : ∀ (l : List Int) (off : Int) (cur : List Int), totN ((linesUp l off cur).map SLX.f1) ≤ cur.length + l.length
  | [], off, cur => by
    unfold linesUp
    split
    · exact Nat.zero_le _
    · simp [totN]
  | c :: l, off, cur => by
    rw [linesUp_cons, List.length_cons]
    by_cases hc : c = 10
    · rw [if_pos hc, List.map_cons, totN]
      have := lines_tot l (off + cur.length + 1) []
      simp only [List.length_nil] at this
      show cur.length + _ ≤ _
      omega
    · rw [if_neg hc]
      have := lines_tot l off (cur ++ [c])
      rw [List.length_append] at this
      simp only [List.length_cons, List.length_nil] at this
      omega
theorem load_facts (l : List Int) (fd : Bool) : (loadP l fd).l.length ≤ 1024 ∧ totN (loadP l fd).l ≤ 1024 ∧ (∀ p ∈ (loadP l fd).l, 0 < p.length) ∧ (∀ p ∈ (loadP l fd).l, p.length ≤ 1024) := by
  unfold loadP
  split
  · exact ⟨Nat.zero_le _, Nat.zero_le _, fun p hp => absurd hp (by simp), fun p hp => absurd hp (by simp)⟩
  · rename_i h
    have h0 : (foldT fd l).length ≤ 1024 := by rw [foldT_len]; omega
    have h1 := of_tot (linesT (foldT fd l)) ⟨[], false⟩
    have h2 := lines_tot (foldT fd l) 0 []
    have h3 : totN (ofP (linesT (foldT fd l))).l ≤ 1024 := by
      show totN ((linesT (foldT fd l)).foldl addP ⟨[], false⟩).l ≤ _
      have e : totN (linesT (foldT fd l)) ≤ 0 + (foldT fd l).length := h2
      have e2 : totN ([] : List (List Int)) = 0 := rfl
      have e3 : totN ((linesT (foldT fd l)).foldl addP ⟨[], false⟩).l ≤ totN ([] : List (List Int)) + totN (linesT (foldT fd l)) := h1
      omega
    have h4 := ofP_len (linesT (foldT fd l)) ⟨[], false⟩
    have h5 := linesT_len (foldT fd l)
    refine ⟨?_, h3, of_pos _ _ (fun p hp => absurd hp (by simp)), fun p hp => ?_⟩
    · have e : ((linesT (foldT fd l)).foldl addP ⟨[], false⟩).l.length ≤ ([] : List (List Int)).length + (linesT (foldT fd l)).length := h4
      simp only [List.length_nil] at e
      show ((linesT (foldT fd l)).foldl addP ⟨[], false⟩).l.length ≤ _
      omega
    · have : ∀ (M : List (List Int)), p ∈ M → p.length ≤ totN M := by
        intro M
        induction M with
        | nil => intro h; cases h
        | cons x M ih =>
          intro h
          rw [totN]
          rcases List.mem_cons.mp h with rfl | h
          · omega
          · have := ih h; omega
      exact Nat.le_trans (this _ hp) h3
theorem least_pos : ∀ (L : List (List Int)) (n : Nat), 0 < n → (∀ p ∈ L, 0 < p.length) → 0 < L.foldl leastU n
  | [], n, h, _ => h
  | b :: L, n, h, hp => by
    rw [List.foldl_cons]
    refine least_pos L _ ?_ (fun p hp2 => hp p (List.mem_cons_of_mem _ hp2))
    unfold leastU
    split
    · exact hp b List.mem_cons_self
    · exact h
theorem least_facts (L : List (List Int)) (hp : ∀ p ∈ L, 0 < p.length) : (0 < L.length + totN L) = (0 < leastN L) := by
  cases L with
  | nil => rfl
  | cons b L =>
    have h1 : 0 < leastN (b :: L) := by
      unfold leastN
      rw [List.foldl_cons]
      refine least_pos L _ ?_ (fun p hp2 => hp p (List.mem_cons_of_mem _ hp2))
      unfold leastU
      rw [if_pos (Or.inl rfl)]
      exact hp b List.mem_cons_self
    rw [eq_true h1, eq_true (show 0 < (b :: L).length + totN (b :: L) by rw [List.length_cons]; omega)]
end Go.Proofs.Ytkpfnhkfecpefaa.Pat
