/- LinesBack: lines, with the newlines that end them, make the text; just the last one may have none behind it. For every list of bytes; no condition. -/
import Derived.Test.YtccpobbebfgpbaaLnsLinesBack
namespace Go.Proofs.Ytccpobbebfgpbaa.Pure
open Go.RowKit Go.Proofs.Ytccpobbebfgpbaa.PLinesBack Go.Proofs.YtccpobbebfgpbaaW.PrintWords Go.Proofs.YtccpobbebfgpbaaW.PrintLast Go.Proofs.Ytccpobbebfgpbaa.Aid Go.Proofs.Ytccpobbebfgpbaa.LnsLinesBack

theorem nl_take : ∀ (l : List Int), ∀ x ∈ l.take (nlAt l), x ≠ 10
  | [], x, hx => by simp at hx
  | c :: l, x, hx => by
    rw [nlAt_cons] at hx
    by_cases e : c = 10
    · rw [if_pos e] at hx; simp at hx
    · rw [if_neg e, List.take_succ_cons] at hx
      rcases List.mem_cons.mp hx with hx | hx
      · rw [hx]; exact e
      · exact nl_take l x hx
theorem nl_at : ∀ (l : List Int), nlAt l < l.length → l.take (nlAt l + 1) = l.take (nlAt l) ++ [10]
  | [], h => by simp at h
  | c :: l, h => by
    rw [nlAt_cons] at h ⊢
    by_cases e : c = 10
    · rw [if_pos e, e]; simp
    · rw [if_neg e] at h ⊢
      rw [List.take_succ_cons, List.take_succ_cons, nl_at l (by simpa using h), List.cons_append]
theorem l1_loop (t : List Int) (xs : List S31) (acc : List Int) (i : Nat) (hi : i < xs.length) (hx : ∀ x ∈ xs[i].f1, x ≠ 10) (hl : xs[i].f1.length ≤ 100000) (ha : acc.length ≤ 100000) (hn : xs.length ≤ 100000)
    (after : Ev (fun k => seinelaw02_LinesBack.l0 k t xs (if xs[i].f2 = true then acc ++ xs[i].f1 ++ [10] else acc ++ xs[i].f1) ((i + 1 : Nat) : Int)) true) (d : Nat) :
    ∀ m : Nat, m + d = xs[i].f1.length → Ev (fun k => seinelaw02_LinesBack.l1 k t xs acc (i : Int) (m : Int)) true := by
  have hr := rd31 xs i hi
  induction d with
  | zero =>
    intro m hm
    refine Ev.succ ?_
    simp only [seinelaw02_LinesBack.l1, if_pos (show (0 : Int) ≤ (i : Int) by omega), if_pos (show (i : Int) < (xs.length : Int) by omega), hr, if_neg (show ¬ (m : Int) < (xs[i].f1.length : Int) by omega), if_pos (show acc.length + xs[i].f1.length < 140737488355328 by omega), Option.bind_some, w64 (show -9223372036854775808 ≤ (i : Int) + 1 by omega) (show (i : Int) + 1 ≤ 9223372036854775807 by omega)]
    by_cases e : xs[i].f2 = true
    · rw [if_pos e] at after
      simp only [if_pos e, if_pos (show (acc ++ xs[i].f1).length < 140737488355328 by simp; omega)]
      exact after
    · rw [if_neg e] at after
      simp only [if_neg e]
      exact after
  | succ d ih =>
    intro m hm
    refine Ev.succ ?_
    have hne : ¬ (xs[i].f1)[m] = 10 := hx _ (List.getElem_mem _)
    simp only [seinelaw02_LinesBack.l1, if_pos (show (0 : Int) ≤ (i : Int) by omega), if_pos (show (i : Int) < (xs.length : Int) by omega), hr, if_pos (show (m : Int) < (xs[i].f1.length : Int) by omega), if_pos (show (0 : Int) ≤ (m : Int) by omega), rd_nat xs[i].f1 m (by omega), if_neg hne, w64 (show -9223372036854775808 ≤ (m : Int) + 1 by omega) (show (m : Int) + 1 ≤ 9223372036854775807 by omega)]
    exact ih (m + 1) (by omega)
theorem l0_end (t : List Int) (xs : List S31) (i : Nat) (hi : xs.length ≤ i) : Ev (fun k => seinelaw02_LinesBack.l0 k t xs t (i : Int)) true := by
  refine Ev.succ ?_
  simp only [seinelaw02_LinesBack.l0, if_neg (show ¬ (i : Int) < (xs.length : Int) by omega), BEq.rfl]
  exact Ev.const rfl
theorem l0_loop (t : List Int) (ht : t.length ≤ 1000) (xs : List S31) (hxl : xs.length ≤ 100000) (d : Nat) : ∀ (n : Nat) (pre : List S31), t.length ≤ n + d → n ≤ t.length → xs = pre ++ linesUp (t.drop n) (n : Int) [] →
    Ev (fun k => seinelaw02_LinesBack.l0 k t xs (t.take n) (pre.length : Int)) true := by
  induction d with
  | zero =>
    intro n pre hn hle hx
    rw [List.drop_of_length_le (by omega)] at hx
    rw [List.take_of_length_le (by omega)]
    exact l0_end t xs _ (by rw [hx]; simp [linesUp])
  | succ d ih =>
    intro n pre hn hle hx
    by_cases hend : n = t.length
    · rw [List.drop_of_length_le (by omega)] at hx
      rw [List.take_of_length_le (by omega)]
      exact l0_end t xs _ (by rw [hx]; simp [linesUp])
    have hlt : n < t.length := by omega
    have hdl : (t.drop n).length = t.length - n := List.length_drop
    have hU := linesUp_nl (t.drop n) (n : Int) [] (by intro e; have := congrArg List.length e; simp at this; omega)
    have hp := nlAt_le (t.drop n)
    by_cases hq : nlAt (t.drop n) < (t.drop n).length
    · rw [if_pos hq, List.nil_append] at hU
      have hoff : (n : Int) + (([] : List Int).length : Int) + (nlAt (t.drop n) : Int) + 1 = ((n + nlAt (t.drop n) + 1 : Nat) : Int) := by simp
      rw [hoff, List.drop_drop, ← Nat.add_assoc] at hU
      have hx2 : xs = (pre ++ [⟨(n : Int), (t.drop n).take (nlAt (t.drop n)), true⟩]) ++ linesUp (t.drop (n + nlAt (t.drop n) + 1)) ((n + nlAt (t.drop n) + 1 : Nat) : Int) [] := by rw [hx, hU]; simp
      have hi : pre.length < xs.length := by rw [hx2]; simp
      have hg : xs[pre.length] = ⟨(n : Int), (t.drop n).take (nlAt (t.drop n)), true⟩ := by
        rw [List.getElem_of_eq hx2, List.getElem_append_left (by simp), List.getElem_append_right (by omega)]; simp
      have hr := rd31 xs pre.length hi
      rw [hg] at hr
      have htk : (t.take n).length = n := by simp; omega
      refine Ev.succ ?_
      simp only [seinelaw02_LinesBack.l0, if_pos (show (pre.length : Int) < (xs.length : Int) by omega), if_pos (show (0 : Int) ≤ (pre.length : Int) by omega), hr, htk, if_true]
      refine Ev.succ ?_
      simp only [seinelaw02_LinesBack.j1, Bool.false_eq_true, if_false]
      refine l1_loop t xs (t.take n) pre.length hi (by rw [hg]; exact nl_take _) (by rw [hg]; simp; omega) (by omega) hxl ?_ xs[pre.length].f1.length 0 (Nat.zero_add _)
      rw [hg]
      have hacc : t.take n ++ (t.drop n).take (nlAt (t.drop n)) ++ [10] = t.take (n + nlAt (t.drop n) + 1) := by
        rw [Nat.add_assoc, List.take_add, nl_at _ hq, List.append_assoc]
      have := ih (n + nlAt (t.drop n) + 1) (pre ++ [⟨(n : Int), (t.drop n).take (nlAt (t.drop n)), true⟩]) (by omega) (by omega) hx2
      rw [List.length_append, List.length_singleton] at this
      simp only [if_true, hacc]
      exact this
    · rw [if_neg hq, List.nil_append] at hU
      have hx2 : xs = pre ++ [⟨(n : Int), t.drop n, false⟩] := by rw [hx, hU]
      have hi : pre.length < xs.length := by rw [hx2]; simp
      have hg : xs[pre.length] = ⟨(n : Int), t.drop n, false⟩ := by
        rw [List.getElem_of_eq hx2, List.getElem_append_right (by omega)]; simp
      have hr := rd31 xs pre.length hi
      rw [hg] at hr
      have htk : (t.take n).length = n := by simp; omega
      have hxn : (xs.length : Int) = (pre.length : Int) + 1 := by rw [hx2]; simp
      refine Ev.succ ?_
      simp only [seinelaw02_LinesBack.l0, if_pos (show (pre.length : Int) < (xs.length : Int) by omega), if_pos (show (0 : Int) ≤ (pre.length : Int) by omega), hr, htk, if_true, Bool.false_eq_true, if_false, w64 (show -9223372036854775808 ≤ (xs.length : Int) - 1 by omega) (show (xs.length : Int) - 1 ≤ 9223372036854775807 by omega), if_neg (show ¬ (pre.length : Int) < (xs.length : Int) - 1 by omega), show (((t.drop n).length : Int) == 0) = false from beq_eq_false_iff_ne.mpr (by omega)]
      refine Ev.succ ?_
      simp only [seinelaw02_LinesBack.j1, Bool.false_eq_true, if_false]
      refine l1_loop t xs (t.take n) pre.length hi ?_ (by rw [hg]; simp; omega) (by omega) hxl ?_ xs[pre.length].f1.length 0 (Nat.zero_add _)
      · rw [hg]
        have h1 := nl_take (t.drop n)
        rw [List.take_of_length_le (by omega)] at h1
        exact h1
      · rw [hg]
        simp only [Bool.false_eq_true, if_false, List.take_append_drop]
        exact l0_end t xs _ (by rw [hx2]; simp)

theorem LinesBack : seinelaw02_LinesBack.Pure := by
  intro t _ _ hw
  refine Ev.rounds (g := fun k => _) (r := true) ?_
  unfold seinelaw02_LinesBack.f
  simp only [seinelaw02_awake.f, Option.bind_some, if_true]
  by_cases h1 : (t.length : Int) > 1000
  · simp only [if_pos h1]; exact Ev.const rfl
  simp only [if_neg h1, split_f t (by omega), Option.bind_some]
  have hlen := linesUp_len t 0 []
  simp at hlen
  exact l0_loop t (by omega) _ (by omega) t.length 0 [] (by omega) (by omega) rfl

end Go.Proofs.Ytccpobbebfgpbaa.Pure
