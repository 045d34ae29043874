/- FoldJoins: the set of two texts, one behind the other, is that of both; order, and how often a byte is there, play no part. For every two lists of bytes; no condition. -/
import Derived.Test.YtaegjpabkkoleaaSetsFoldJoins
import Derived.Test.YtaegjpabkkoleaaAid
namespace Go.Proofs.Ytaegjpabkkoleaa.Pure
open Go.RowKit Go.Proofs.Ytaegjpabkkoleaa.PFoldJoins Go.Proofs.YtaegjpabkkoleaaW.PrintWords Go.Proofs.YtaegjpabkkoleaaW.PrintLast Go.Proofs.Ytaegjpabkkoleaa.Aid Go.Proofs.Ytaegjpabkkoleaa.SetsFoldJoins

theorem of_f (l : List Int) (h : ∀ x ∈ l, 0 ≤ x ∧ x < 256) : fold_Of.f l = some (ofS l).tup := by unfold fold_Of.f; rw [if_pos h]
theorem un_f (s o : SS) : fold_Set_Union.f s.tup.1 s.tup.2.1 s.tup.2.2.1 s.tup.2.2.2 o.tup.1 o.tup.2.1 o.tup.2.2.1 o.tup.2.2.2 = some (unionS s o).tup := by
  unfold fold_Set_Union.f; exact congrArg (fun z => some (SS.tup z)) (by rfl)
theorem len_f (s : SS) : fold_Set_Len.f s.tup.1 s.tup.2.1 s.tup.2.2.1 s.tup.2.2.2 = some (lenS s) := by
  unfold fold_Set_Len.f; exact congrArg (fun z => some (lenS z)) (by rfl)
theorem same_b (s : SS) : (s.tup.1 == s.tup.1 && (s.tup.2.1 == s.tup.2.1 && (s.tup.2.2.1 == s.tup.2.2.1 && (s.tup.2.2.2 == s.tup.2.2.2)))) = true := by simp
/-- how many of a list one thing or another holds of -/
theorem count_or (l : List Int) (p q : Int → Bool) : (l.filter (fun x => p x || q x)).length ≤ (l.filter p).length + (l.filter q).length ∧ (l.filter p).length ≤ (l.filter (fun x => p x || q x)).length ∧ (l.filter q).length ≤ (l.filter (fun x => p x || q x)).length := by
  induction l with
  | nil => simp
  | cons x l ih =>
    simp only [List.filter_cons]
    cases p x <;> cases q x <;> simp <;> omega
theorem list_union {s o : SS} (h : Wf s) (k : Wf o) : listS (unionS s o) = ((List.range 256).map (fun (n : Nat) => (n : Int))).filter (fun x => hasS s x || hasS o x) := by
  unfold listS
  refine List.filter_congr (fun x hx => ?_)
  obtain ⟨n, hn, rfl⟩ := List.mem_map.mp hx
  have := List.mem_range.mp hn
  rw [has_union h k _ (by omega) (by omega)]

theorem fin (U A B : Int) (p q r : Nat) (za : A ≤ 256) (zb : B ≤ 256) (la : A = (p : Int)) (lb : B = (q : Int)) (lu : U = (r : Int)) (hl : r ≤ p + q ∧ p ≤ r ∧ q ≤ r) :
    Ev (fun _ => (some U).bind fun t139 => (some A).bind fun t140 => (some B).bind fun t141 => if t139 ≤ wrap64 (t140 + t141) then (some U).bind fun t142 => (some A).bind fun t143 => (some B).bind fun t144 => some (decide (t142 ≥ mx t143 t144)) else none) true := by
  have w1 : wrap64 (A + B) = A + B := w64 (by omega) (by omega)
  have m1 : U ≥ mx A B := by unfold mx; split <;> omega
  simp only [Option.bind_some, w1, if_pos (show U ≤ A + B by omega), decide_eq_true m1]
  exact Ev.const rfl
theorem FoldJoins : seinelaw01_FoldJoins.Pure := by
  intro a b _ _ ha _ _ hb
  have ba : ∀ x ∈ a, 0 ≤ x ∧ x < 256 := fun x hx => by have := wf8 (ha x hx); omega
  have bb : ∀ x ∈ b, 0 ≤ x ∧ x < 256 := fun x hx => by have := wf8 (hb x hx); omega
  refine Ev.rounds (g := fun k => _) (r := true) ?_
  unfold seinelaw01_FoldJoins.f
  simp only [seinelaw01_awake.f, Option.bind_some, if_true]
  have ht : Ev (fun k => seinelaw01_FoldJoins.j0 k a b true) true := by
    refine Ev.succ ?_
    simp only [seinelaw01_FoldJoins.j0, if_true]
    exact Ev.const rfl
  by_cases h1 : (a.length : Int) > 300
  · simp only [if_pos h1]; exact ht
  by_cases h2 : (b.length : Int) > 300
  · simp only [if_neg h1, decide_eq_true h2]; exact ht
  simp only [if_neg h1, decide_eq_false h2]
  have bc : ∀ x ∈ ([] ++ a ++ b ++ a : List Int), 0 ≤ x ∧ x < 256 := by
    intro x hx
    simp only [List.nil_append, List.mem_append] at hx
    rcases hx with (hx | hx) | hx
    · exact ba x hx
    · exact bb x hx
    · exact ba x hx
  obtain ⟨wa, sa⟩ := of_spec a ba
  obtain ⟨wb, sb⟩ := of_spec b bb
  obtain ⟨wc, sc⟩ := of_spec _ bc
  have wu := wf_union wa wb
  have e1 : ofS ([] ++ a ++ b ++ a) = unionS (ofS a) (ofS b) := by
    refine set_ext wc wu (fun y y0 y1 => ?_)
    rw [sc y y0 y1, has_union wa wb y y0 y1, sa y y0 y1, sb y y0 y1]
    by_cases p : y ∈ a <;> by_cases q : y ∈ b <;> simp [p, q]
  have e2 : unionS (ofS b) (ofS a) = unionS (ofS a) (ofS b) := by
    refine set_ext (wf_union wb wa) wu (fun y y0 y1 => ?_)
    rw [has_union wb wa y y0 y1, has_union wa wb y y0 y1, Bool.or_comm]
  have e3 : unionS (unionS (ofS a) (ofS b)) (unionS (ofS a) (ofS b)) = unionS (ofS a) (ofS b) := by
    refine set_ext (wf_union wu wu) wu (fun y y0 y1 => ?_)
    rw [has_union wu wu y y0 y1, Bool.or_self]
  have hl := count_or ((List.range 256).map (fun (n : Nat) => (n : Int))) (hasS (ofS a)) (hasS (ofS b))
  have lu := len_list wu
  rw [list_union wa wb] at lu
  have la := len_list wa
  have lb := len_list wb
  unfold listS at la lb
  have za : lenS (ofS a) ≤ 256 := by rw [la]; have := List.length_filter_le (hasS (ofS a)) ((List.range 256).map (fun (n : Nat) => (n : Int))); rw [List.length_map, List.length_range] at this; omega
  have zb : lenS (ofS b) ≤ 256 := by rw [lb]; have := List.length_filter_le (hasS (ofS b)) ((List.range 256).map (fun (n : Nat) => (n : Int))); rw [List.length_map, List.length_range] at this; omega
  refine Ev.succ ?_
  simp only [seinelaw01_FoldJoins.j0, Bool.false_eq_true, if_false, of_f a ba, of_f b bb, Option.bind_some]
  simp only [if_pos (show ([] : List Int).length + a.length < 140737488355328 by simp; omega), if_pos (show ([] ++ a : List Int).length + b.length < 140737488355328 by simp; omega), if_pos (show ([] ++ a ++ b : List Int).length + a.length < 140737488355328 by simp; omega), un_f, of_f _ bc, Option.bind_some]
  simp only [e1, same_b, if_true, e2, e3]
  simp only [len_f]
  exact fin _ _ _ _ _ _ za zb la lb lu hl

end Go.Proofs.Ytaegjpabkkoleaa.Pure
