/- Lines of a text as a list of numbers: how many, how many bytes are no newlines, parts, a newline behind. For every text short enough; no condition. -/
import Derived.Test.YtccpobbebfgpbaaPLinesJoinx
import Derived.Test.YtccpobbebfgpbaaAid
import Derived.Lib.Bytes
namespace Go.Proofs.Ytccpobbebfgpbaa.LnsLinesJoin
open Go.RowKit Go.Proofs.Ytccpobbebfgpbaa.PLinesJoin Go.Proofs.YtccpobbebfgpbaaW.PrintWords Go.Proofs.Ytccpobbebfgpbaa.Aid
/-- how many bytes are no newlines -/
def bareN : List Int → Nat
  | [] => 0
  | c :: l => if c = 10 then bareN l else bareN l + 1
theorem bareN_le : ∀ l : List Int, bareN l ≤ l.length
  | [] => Nat.le_refl _
  | c :: l => by
    have := bareN_le l
    unfold bareN
    split <;> simp <;> omega
theorem bareN_cons (c : Int) (l : List Int) : bareN (c :: l) = if c = 10 then bareN l else bareN l + 1 := rfl
theorem bareN_app : ∀ a b : List Int, bareN (a ++ b) = bareN a + bareN b
  | [], b => by simp [bareN]
  | c :: a, b => by
    have := bareN_app a b
    rw [List.cons_append, bareN_cons, bareN_cons]
    split <;> omega
theorem bare_loop (l : List Int) (hl : l.length ≤ 100000) (d : Nat) : ∀ (n m : Nat), n + d = l.length → m ≤ n →
    Ev (fun k => lines_Bare.l0 k (m : Int) l (l.length : Int) (n : Int)) ((m + bareN (l.drop n) : Nat) : Int) := by
  induction d with
  | zero =>
    intro n m hn hm
    refine Ev.succ ?_
    simp only [lines_Bare.l0, if_neg (show ¬ (n : Int) < (l.length : Int) by omega)]
    exact Ev.const (by rw [List.drop_of_length_le (by omega)]; rfl)
  | succ d ih =>
    intro n m hn hm
    refine Ev.succ ?_
    simp only [lines_Bare.l0, if_pos (show (n : Int) < (l.length : Int) by omega), if_pos (show (0 : Int) ≤ (n : Int) by omega), rd_nat l n (by omega), w64 (show -9223372036854775808 ≤ (n : Int) + 1 by omega) (show (n : Int) + 1 ≤ 9223372036854775807 by omega), w64 (show -9223372036854775808 ≤ (m : Int) + 1 by omega) (show (m : Int) + 1 ≤ 9223372036854775807 by omega)]
    have e : bareN (l.drop n) = if l[n] = 10 then bareN (l.drop (n + 1)) else bareN (l.drop (n + 1)) + 1 := by
      rw [List.drop_eq_getElem_cons (show n < l.length by omega)]; rfl
    by_cases h : l[n] = 10
    · rw [e, if_pos h]
      simp only [if_pos h]
      exact ih (n + 1) m (by omega) (by omega)
    · rw [e, if_neg h]
      simp only [if_neg h]
      have := ih (n + 1) (m + 1) (by omega) (by omega)
      rw [show m + (bareN (l.drop (n + 1)) + 1) = m + 1 + bareN (l.drop (n + 1)) by omega]
      exact this
theorem bare_f (l : List Int) (hl : l.length ≤ 100000) : Ev (fun k => lines_Bare.f k l) (bareN l : Int) := by
  have := bare_loop l hl l.length 0 0 (by omega) (by omega)
  rw [Nat.zero_add] at this
  exact this
/-- is a line under way at a text's end? -/
def openE : List Int → Bool → Bool
  | [], b => b
  | c :: l, _ => openE l (decide (c ≠ 10))
theorem openE_snoc : ∀ (l : List Int) (c : Int) (b : Bool), openE (l ++ [c]) b = decide (c ≠ 10)
  | [], _, _ => rfl
  | _ :: l, c, _ => openE_snoc l c _
theorem len_up : ∀ (l : List Int) (off : Int) (cur : List Int), (linesUp l off cur).length + bareN l = l.length + (if openE l (decide (cur ≠ [])) = true then 1 else 0)
  | [], off, cur => by
    unfold linesUp openE bareN
    by_cases h : cur = []
    · simp [h]
    · simp [h]
  | c :: l, off, cur => by
    rw [linesUp_cons]
    unfold openE bareN
    by_cases h : c = 10
    · have := len_up l (off + cur.length + 1) []
      rw [if_pos h, if_pos h, List.length_cons, List.length_cons]
      simp only [h, ne_eq, not_true_eq_false, decide_false] at this ⊢
      omega
    · have := len_up l off (cur ++ [c])
      rw [if_neg h, if_neg h, List.length_cons]
      simp only [ne_eq, h, not_false_eq_true, decide_true, List.append_eq_nil_iff, List.cons_ne_self, and_false] at this ⊢
      omega
theorem last_rd (l : List Int) (h : 0 < l.length) : ∃ a c, l = a ++ [c] ∧ rd l ((l.length : Int) - 1) = c := by
  obtain ⟨a, c, rfl⟩ : ∃ a c, l = a ++ [c] := ⟨l.dropLast, l.getLast (by intro e; rw [e] at h; simp at h), (List.dropLast_concat_getLast _).symm⟩
  refine ⟨a, c, rfl, ?_⟩
  rw [show (((a ++ [c]).length : Int) - 1) = (a.length : Int) by simp, rd_nat _ _ (by simp)]
  simp
theorem count_f (l : List Int) (hl : l.length ≤ 100000) : Ev (fun k => lines_Count.f k l) ((linesUp l 0 []).length : Int) := by
  have hb := bareN_le l
  have hu := len_up l 0 []
  unfold lines_Count.f
  refine Ev.bind (bare_f l hl) ?_
  rw [w64 (show -9223372036854775808 ≤ (l.length : Int) - 1 by omega) (by omega), w64 (show -9223372036854775808 ≤ (l.length : Int) - (bareN l : Int) by omega) (by omega)]
  by_cases h : 0 < l.length
  · obtain ⟨a, c, e, hr⟩ := last_rd l h
    have ho : openE l (decide (([] : List Int) ≠ [])) = decide (c ≠ 10) := by rw [e]; exact openE_snoc a c _
    rw [ho] at hu
    simp only [if_pos (show (l.length : Int) > 0 by omega), if_pos (show 0 ≤ (l.length : Int) - 1 by omega), if_pos (show (l.length : Int) - 1 < (l.length : Int) by omega), hr]
    by_cases hc : c = 10
    · simp only [if_pos hc]
      simp [hc] at hu
      exact Ev.const (by congr 1; omega)
    · simp only [if_neg hc]
      simp [hc] at hu
      rw [w64 (by omega) (by omega)]
      exact Ev.const (by congr 1; omega)
  · have e : l = [] := List.length_eq_zero_iff.mp (by omega)
    subst e
    simp only [if_neg (show ¬ (([] : List Int).length : Int) > 0 by simp)]
    exact Ev.const rfl
theorem split_f (l : List Int) (hl : l.length ≤ 100000) : lines_Split.f l = some (linesUp l 0 []) := by unfold lines_Split.f; rw [if_pos (by omega)]
/-- lines further on -/
def far (d : Int) (x : S31) : S31 := ⟨x.f0 + d, x.f1, x.f2⟩
theorem up_far : ∀ (l : List Int) (off d : Int) (cur : List Int), linesUp l (off + d) cur = (linesUp l off cur).map (far d)
  | [], off, d, cur => by
    unfold linesUp
    split <;> rfl
  | c :: l, off, d, cur => by
    rw [linesUp_cons, linesUp_cons]
    by_cases h : c = 10
    · rw [if_pos h, if_pos h, List.map_cons, ← up_far l _ d []]
      rw [show off + d + (cur.length : Int) + 1 = off + (cur.length : Int) + 1 + d by omega]
      rfl
    · rw [if_neg h, if_neg h, up_far l off d]
theorem up_parts : ∀ (l b : List Int) (off : Int) (cur : List Int), linesUp (l ++ 10 :: b) off cur = linesUp (l ++ [10]) off cur ++ linesUp b (off + cur.length + l.length + 1) []
  | [], b, off, cur => by
    rw [List.nil_append, List.nil_append, linesUp_cons, linesUp_cons, if_pos rfl, if_pos rfl]
    rw [show linesUp [] (off + (cur.length : Int) + 1) [] = [] from rfl]
    simp
  | c :: l, b, off, cur => by
    rw [List.cons_append, List.cons_append, linesUp_cons, linesUp_cons]
    by_cases h : c = 10
    · rw [if_pos h, if_pos h, up_parts l b]
      rw [List.cons_append]
      congr 3
      simp; omega
    · rw [if_neg h, if_neg h, up_parts l b]
      congr 2
      simp; omega
theorem up_closed : ∀ (l : List Int) (off : Int) (cur : List Int), openE l (decide (cur ≠ [])) = false → linesUp (l ++ [10]) off cur = linesUp l off cur ++ [⟨off + cur.length + l.length, [], true⟩]
  | [], off, cur, h => by
    have : cur = [] := by unfold openE at h; simpa using h
    subst this
    simp [linesUp]
  | c :: l, off, cur, h => by
    rw [List.cons_append, linesUp_cons, linesUp_cons]
    unfold openE at h
    by_cases e : c = 10
    · rw [if_pos e, if_pos e, up_closed l _ [] (by simpa [e] using h), List.cons_append]
      rw [show (off + (cur.length : Int) + 1) + (([] : List Int).length : Int) + (l.length : Int) = off + (cur.length : Int) + ((c :: l).length : Int) by simp; omega]
    · rw [if_neg e, if_neg e, up_closed l off (cur ++ [c]) (by simpa [e] using h)]
      rw [show off + ((cur ++ [c]).length : Int) + (l.length : Int) = off + (cur.length : Int) + ((c :: l).length : Int) by simp; omega]
theorem up_open : ∀ (l : List Int) (off : Int) (cur : List Int), openE l (decide (cur ≠ [])) = true → ∃ p o x, linesUp l off cur = p ++ [⟨o, x, false⟩] ∧ linesUp (l ++ [10]) off cur = p ++ [⟨o, x, true⟩]
  | [], off, cur, h => by
    have : cur ≠ [] := by unfold openE at h; simpa using h
    exact ⟨[], off, cur, by simp [linesUp, this], by simp [linesUp]⟩
  | c :: l, off, cur, h => by
    rw [List.cons_append, linesUp_cons, linesUp_cons]
    unfold openE at h
    by_cases e : c = 10
    · obtain ⟨p, o, x, h1, h2⟩ := up_open l (off + cur.length + 1) [] (by simpa [e] using h)
      rw [if_pos e, if_pos e, h1, h2]
      exact ⟨⟨off, cur, true⟩ :: p, o, x, rfl, rfl⟩
    · obtain ⟨p, o, x, h1, h2⟩ := up_open l off (cur ++ [c]) (by simpa [e] using h)
      rw [if_neg e, if_neg e, h1, h2]
      exact ⟨p, o, x, rfl, rfl⟩
/-- where lines begin -/
theorem up_offs : ∀ (l : List Int) (off : Int) (cur : List Int), 0 ≤ off → ∀ x ∈ linesUp l off cur, off ≤ x.f0 ∧ x.f0 ≤ off + cur.length + l.length
  | [], off, cur, h, x, hx => by
    unfold linesUp at hx
    split at hx
    · cases hx
    · rw [List.mem_singleton] at hx; subst hx; refine ⟨?_, ?_⟩ <;> simp <;> omega
  | c :: l, off, cur, h, x, hx => by
    rw [linesUp_cons] at hx
    by_cases e : c = 10
    · rw [if_pos e] at hx
      rcases List.mem_cons.mp hx with hx | hx
      · subst hx; simp; omega
      · have := up_offs l (off + cur.length + 1) [] (by omega) x hx
        simp at this ⊢; omega
    · rw [if_neg e] at hx
      have := up_offs l off (cur ++ [c]) h x hx
      simp at this ⊢; omega
theorem up_txt (ok : Int → Prop) : ∀ (l : List Int) (off : Int) (cur : List Int), (∀ x ∈ l, ok x) → (∀ x ∈ cur, ok x) → ∀ y ∈ linesUp l off cur, ∀ x ∈ y.f1, ok x
  | [], off, cur, hl, hc, y, hy => by
    unfold linesUp at hy
    split at hy
    · cases hy
    · rw [List.mem_singleton] at hy; subst hy; exact hc
  | c :: l, off, cur, hl, hc, y, hy => by
    rw [linesUp_cons] at hy
    by_cases e : c = 10
    · rw [if_pos e] at hy
      rcases List.mem_cons.mp hy with hy | hy
      · subst hy; exact hc
      · exact up_txt ok l _ [] (fun x hx => hl x (List.mem_cons_of_mem _ hx)) (by simp) y hy
    · rw [if_neg e] at hy
      refine up_txt ok l off (cur ++ [c]) (fun x hx => hl x (List.mem_cons_of_mem _ hx)) ?_ y hy
      intro x hx
      rcases List.mem_append.mp hx with hx | hx
      · exact hc x hx
      · rw [List.mem_singleton] at hx; subst hx; exact hl _ (by simp)
theorem rd31 (xs : List S31) (n : Nat) (h : n < xs.length) : rd_T31 xs (n : Int) = xs[n] := by
  unfold rd_T31; rw [Int.toNat_natCast, List.getD_eq_getElem?_getD, List.getElem?_eq_getElem h]; rfl
end Go.Proofs.Ytccpobbebfgpbaa.LnsLinesJoin
