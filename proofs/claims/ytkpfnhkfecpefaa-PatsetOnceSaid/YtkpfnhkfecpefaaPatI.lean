/- A file twice: plain. -/
import Derived.Test.YtkpfnhkfecpefaaPatG
namespace Go.Proofs.Ytkpfnhkfecpefaa.Pat
open Go Go.RowKit Go.Proofs Go.Proofs.YtkpfnhkfecpefaaW.PrintWords Go.Proofs.YtkpfnhkfecpefaaW.PrintMore Go.Proofs.YtkpfnhkfecpefaaW.PrintLast Go.Proofs.Ytkpfnhkfecpefaa.Lin
set_option linter.unusedVariables false
set_option linter.unusedSimpArgs false
/-- a text's lines, by their bytes alone -/
def tx : List Int → List Int → List (List Int)
  | [], cur => if cur = [] then [] else [cur]
  | c :: l, cur => if c = 10 then cur :: tx l [] else tx l (cur ++ [c])
theorem tx_up : ∀ (l : List Int) (off : Int) (cur : List Int), (linesUp l off cur).map SLX.f1 = tx l cur
  | [], off, cur => by
    unfold linesUp tx
    split <;> rfl
  | c :: l, off, cur => by
    rw [linesUp_cons, tx]
    split
    · rw [List.map_cons, tx_up l]
    · rw [tx_up l]
/-- does a text end with its line? -/
def endsB : List Int → List Int → Bool
  | [], cur => decide (cur = [])
  | c :: l, cur => if c = 10 then endsB l [] else endsB l (cur ++ [c])
theorem tx_nl : ∀ (a b cur : List Int), tx (a ++ 10 :: b) cur = tx a cur ++ ((if endsB a cur = true then [[]] else []) ++ tx b [])
  | [], b, cur => by
    have e1 : tx ([] ++ 10 :: b) cur = cur :: tx b [] := if_pos rfl
    have e2 : tx [] cur = if cur = [] then [] else [cur] := rfl
    have e3 : endsB [] cur = decide (cur = []) := rfl
    rw [e1, e2, e3]
    by_cases h : cur = []
    · rw [if_pos h, h]; rfl
    · rw [if_neg h, decide_eq_false h]; rfl
  | c :: a, b, cur => by
    rw [List.cons_append, tx, tx, endsB]
    by_cases h : c = 10
    · rw [if_pos h, if_pos h, if_pos h, tx_nl a b []]; rfl
    · rw [if_neg h, if_neg h, if_neg h, tx_nl a b (cur ++ [c])]
theorem ends_last : ∀ (a cur : List Int), endsB a cur = if h : a = [] then decide (cur = []) else decide (a.getLast h = 10)
  | [], cur => rfl
  | c :: a, cur => by
    rw [endsB, dif_neg (by simp)]
    by_cases h : c = 10
    · rw [if_pos h, ends_last a []]
      by_cases ha : a = []
      · subst ha; simp [h]
      · rw [dif_neg ha, List.getLast_cons ha]
    · rw [if_neg h, ends_last a (cur ++ [c])]
      by_cases ha : a = []
      · subst ha; simp [h]
      · rw [dif_neg ha, List.getLast_cons ha]
theorem byte_nl (c : Int) : byteI c = 10 ↔ c = 10 := by
  unfold byteI upB
  by_cases h : 65 ≤ c ∧ c ≤ 90
  · simp [h.1, h.2]; omega
  · have : (decide (65 ≤ c) && decide (c ≤ 90)) = false := by simp; omega
    rw [this]; simp
theorem fold_app (fd : Bool) (a b : List Int) : foldT fd (a ++ b) = foldT fd a ++ foldT fd b := by
  unfold foldT
  split
  · rw [List.map_append]
  · rfl
theorem fold_nl (fd : Bool) (a : List Int) : foldT fd (a ++ 10 :: a) = foldT fd a ++ 10 :: foldT fd a := by
  rw [show a ++ 10 :: a = a ++ ([10] ++ a) from rfl, fold_app, fold_app, show foldT fd [10] = [10] by unfold foldT; split <;> rfl]
  rfl
def endsF (l : List Int) : Bool := endsB l []
theorem ends_fold (fd : Bool) (l : List Int) : endsB (foldT fd l) [] = endsF l := by
  unfold endsF foldT
  split
  · rw [ends_last, ends_last]
    by_cases h : l = []
    · subst h; rfl
    · rw [dif_neg h, dif_neg (by simpa using h), List.getLast_map, decide_eq_decide]
      exact byte_nl _
  · rfl
theorem in_mono (l : List (List Int)) (b b' : List Int) (h : inP l b' = true) : inP (l ++ [b]) b' = true := by rw [inP_snoc, h]; rfl
theorem in_self (l : List (List Int)) (b : List Int) : inP (l ++ [b]) b = true := by rw [inP_snoc, decide_eq_true rfl, Bool.or_true]
theorem add_keeps (s : PS) (b : List Int) : (∀ b', inP s.l b' = true → inP (addP s b).l b' = true) ∧ (s.e = true → (addP s b).e = true) := by
  unfold addP
  split
  · exact ⟨fun _ h => h, fun _ => rfl⟩
  · split
    · exact ⟨fun _ h => h, fun h => h⟩
    · exact ⟨fun b' h => in_mono _ _ _ h, fun h => h⟩
theorem fold_keeps : ∀ (L : List (List Int)) (s : PS), (∀ b', inP s.l b' = true → inP (L.foldl addP s).l b' = true) ∧ (s.e = true → (L.foldl addP s).e = true)
  | [], s => ⟨fun _ h => h, fun h => h⟩
  | b :: L, s => by
    obtain ⟨h1, h2⟩ := add_keeps s b
    obtain ⟨h3, h4⟩ := fold_keeps L (addP s b)
    exact ⟨fun b' h => h3 b' (h1 b' h), fun h => h4 (h2 h)⟩
theorem fold_has : ∀ (L : List (List Int)) (s : PS), ∀ b ∈ L, hasP (L.foldl addP s) b = true
  | [], s, b, hb => by cases hb
  | x :: L, s, b, hb => by
    rcases List.mem_cons.mp hb with rfl | hb
    · obtain ⟨h1, h2⟩ := fold_keeps L (addP s b)
      rw [List.foldl_cons]
      unfold hasP
      by_cases h0 : b.length = 0
      · rw [if_pos h0]
        exact h2 (by unfold addP; rw [if_pos h0])
      · rw [if_neg h0]
        refine h1 b ?_
        unfold addP
        rw [if_neg h0]
        split
        · rename_i h; exact h
        · exact in_self _ _
    · exact fold_has L _ b hb
theorem fold_again : ∀ (L : List (List Int)) (s : PS), (∀ b ∈ L, hasP s b = true) → L.foldl addP s = s
  | [], s, h => rfl
  | b :: L, s, h => by
    have hb := h b List.mem_cons_self
    have he : addP s b = s := by
      unfold hasP at hb
      unfold addP
      by_cases h0 : b.length = 0
      · rw [if_pos h0] at hb ⊢
        rw [← hb]
      · rw [if_neg h0] at hb ⊢
        rw [if_pos hb]
    rw [List.foldl_cons, he]
    exact fold_again L s (fun b hb => h b (List.mem_cons_of_mem _ hb))
/-- what a file twice comes to -/
theorem load_twice (l : List Int) (fd : Bool) (hl : l.length ≤ 500) : loadP (l ++ 10 :: l) fd = ⟨(loadP l fd).l, (loadP l fd).e || endsF l⟩ := by
  unfold loadP
  rw [if_neg (by rw [List.length_append, List.length_cons]; omega), if_neg (by omega), fold_nl]
  unfold linesT
  rw [tx_up, tx_up, tx_nl, ends_fold]
  generalize tx (foldT fd l) [] = X
  show (X ++ (_ ++ X)).foldl addP ⟨[], false⟩ = ⟨(X.foldl addP ⟨[], false⟩).l, (X.foldl addP ⟨[], false⟩).e || endsF l⟩
  have hh := fold_has X ⟨[], false⟩
  rw [List.foldl_append, List.foldl_append]
  generalize X.foldl addP ⟨[], false⟩ = s at hh ⊢
  cases he : endsF l with
  | false =>
    rw [if_neg (by decide), Bool.or_false]
    exact fold_again X s hh
  | true =>
    rw [if_pos rfl, Bool.or_true]
    show X.foldl addP (addP s []) = _
    rw [show addP s [] = ⟨s.l, true⟩ from if_pos rfl]
    refine fold_again X _ (fun b hb => ?_)
    have h := hh b hb
    unfold hasP at h ⊢
    split
    · rfl
    · rename_i h0
      rw [if_neg h0] at h
      exact h
end Go.Proofs.Ytkpfnhkfecpefaa.Pat
