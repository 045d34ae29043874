/- LinesParts: the lines of two texts with a newline between are those of the first one with it, and those of the second one. For every two lists of bytes; no condition. -/
import Derived.Test.YtccpobbebfgpbaaLnsLinesParts
namespace Go.Proofs.Ytccpobbebfgpbaa.Pure
open Go.RowKit Go.Proofs.Ytccpobbebfgpbaa.PLinesParts Go.Proofs.YtccpobbebfgpbaaW.PrintWords Go.Proofs.YtccpobbebfgpbaaW.PrintLast Go.Proofs.Ytccpobbebfgpbaa.Aid Go.Proofs.Ytccpobbebfgpbaa.LnsLinesParts

theorem far0 (x : S31) : far 0 x = x := by unfold far; rw [Int.add_zero]
theorem map_far0 (xs : List S31) : xs.map (far 0) = xs := by
  induction xs with
  | nil => rfl
  | cons x xs ih => rw [List.map_cons, ih, far0]
theorem same_loop (ys : List S31) (d : Int) (hl : ys.length ≤ 100000) (hd : 0 ≤ d ∧ d ≤ 100000) (hb : ∀ y ∈ ys, 0 ≤ y.f0 ∧ y.f0 ≤ 100000) (e : Nat) : ∀ n : Nat, n + e = ys.length →
    Ev (fun k => seinelaw02_same.l0 k (ys.map (far d)) ys d (n : Int)) true := by
  induction e with
  | zero =>
    intro n hn
    refine Ev.succ ?_
    simp only [seinelaw02_same.l0, List.length_map, if_neg (show ¬ (n : Int) < (ys.length : Int) by omega)]
    exact Ev.const rfl
  | succ e ih =>
    intro n hn
    have h1 : rd_T31 (ys.map (far d)) (n : Int) = far d ys[n] := by rw [rd31 _ n (by simp; omega)]; simp
    have h2 := rd31 ys n (by omega)
    have h3 := hb ys[n] (List.getElem_mem _)
    refine Ev.succ ?_
    simp only [seinelaw02_same.l0, List.length_map, if_pos (show (n : Int) < (ys.length : Int) by omega), if_pos (show (0 : Int) ≤ (n : Int) by omega), h1, h2, far, w64 (show -9223372036854775808 ≤ ys[n].f0 + d by omega) (show ys[n].f0 + d ≤ 9223372036854775807 by omega), if_true, bne_self_eq_false, Bool.false_eq_true, if_false, w64 (show -9223372036854775808 ≤ (n : Int) + 1 by omega) (show (n : Int) + 1 ≤ 9223372036854775807 by omega)]
    exact ih (n + 1) (by omega)
theorem same_far (ys : List S31) (d : Int) (hl : ys.length ≤ 100000) (hd : 0 ≤ d ∧ d ≤ 100000) (hb : ∀ y ∈ ys, 0 ≤ y.f0 ∧ y.f0 ≤ 100000) : Ev (fun k => seinelaw02_same.f k (ys.map (far d)) ys d) true := by
  unfold seinelaw02_same.f
  simp only [List.length_map, if_true]
  exact same_loop ys d hl hd hb ys.length 0 (by omega)
theorem same_self (ys : List S31) (hl : ys.length ≤ 100000) (hb : ∀ y ∈ ys, 0 ≤ y.f0 ∧ y.f0 ≤ 100000) : Ev (fun k => seinelaw02_same.f k ys ys 0) true := by
  have := same_far ys 0 hl (by omega) hb
  rw [map_far0] at this
  exact this
theorem offs (l : List Int) (hl : l.length ≤ 2000) : ∀ y ∈ linesUp l 0 [], 0 ≤ y.f0 ∧ y.f0 ≤ 100000 := by
  intro y hy
  have := up_offs l 0 [] (by omega) y hy
  simp at this
  omega
theorem LinesParts : seinelaw02_LinesParts.Pure := by
  intro a b _ _ ha _ _ hb
  refine Ev.rounds (g := fun k => _) (r := true) ?_
  unfold seinelaw02_LinesParts.f
  simp only [seinelaw02_awake.f, Option.bind_some, if_true]
  have ht : Ev (fun k => seinelaw02_LinesParts.j0 k a b true) true := by
    refine Ev.succ ?_
    simp only [seinelaw02_LinesParts.j0, if_true]
    exact Ev.const rfl
  by_cases h1 : (a.length : Int) > 500
  · simp only [if_pos h1]; exact ht
  by_cases h2 : (b.length : Int) > 500
  · simp only [if_neg h1, decide_eq_true h2]; exact ht
  simp only [if_neg h1, decide_eq_false h2]
  have e0 : ([] ++ a ++ [10] : List Int) = a ++ [10] := by simp
  have e1 : (a ++ [10] : List Int) ++ b = a ++ 10 :: b := by simp
  have l1 : (a ++ [10] : List Int).length = a.length + 1 := by simp
  have l2 : (a ++ 10 :: b : List Int).length = a.length + b.length + 1 := by simp; omega
  have hU := up_parts a b 0 []
  have hF := up_far b 0 ((a.length + 1 : Nat) : Int) []
  have ho : (0 : Int) + (([] : List Int).length : Int) + (a.length : Int) + 1 = 0 + ((a.length + 1 : Nat) : Int) := by simp
  rw [ho, hF] at hU
  have n1 := linesUp_len (a ++ [10]) 0 []
  have n2 := linesUp_len b 0 []
  have o1 := offs (a ++ [10]) (by omega)
  have o2 := offs b (by omega)
  rw [l1] at n1
  simp only [List.length_nil, Nat.zero_add] at n1 n2
  have cU := count_f (a ++ 10 :: b) (by omega)
  have s1 := split_f (a ++ [10]) (by omega)
  have s2 := split_f (a ++ 10 :: b) (by omega)
  have s3 := split_f b (by omega)
  rw [hU] at cU s2
  generalize linesUp (a ++ [10]) 0 [] = X at *
  generalize linesUp b 0 [] = Z at *
  refine Ev.succ ?_
  have c1 : a.length < 140737488355328 := by omega
  have c2 : a.length + 1 + b.length < 140737488355328 := by omega
  simp only [seinelaw02_LinesParts.j0, Bool.false_eq_true, if_false, List.nil_append, List.length_nil, Nat.zero_add, Option.bind_some, c1, if_true]
  rw [s1]
  simp (implicitDefEqProofs := false) only [Option.bind_some]
  rw [e1, s2, s3, l1]
  simp (implicitDefEqProofs := false) only [Option.bind_some, if_pos c2]
  have c3 : wrap64 ((X.length : Int) + (Z.length : Int)) = ((X ++ Z.map (far ((a.length + 1 : Nat) : Int))).length : Int) := by rw [w64 (by omega) (by omega)]; simp
  simp only [c3, if_true]
  refine Ev.bind cU ?_
  have c4 : (0 : Int) ≤ (X.length : Int) := by omega
  have c5 : (X.length : Int) ≤ ((X ++ Z.map (far ((a.length + 1 : Nat) : Int))).length : Int) := by simp; omega
  simp only [bne_self_eq_false]
  refine Ev.succ ?_
  simp only [seinelaw02_LinesParts.j1, Bool.false_eq_true, if_false, c4, c5, if_true, Int.toNat_natCast, List.take_left, List.drop_left]
  refine Ev.bind (same_self X (by omega) o1) ?_
  simp only [if_true]
  refine Ev.bind (a := true) ?_ (Ev.const rfl)
  exact same_far Z _ (by omega) (by omega) o2

end Go.Proofs.Ytccpobbebfgpbaa.Pure
