/- FoldRaw: whatever four numbers a set is: its bytes rise, are as many as are told, and are just those that are in it; the set of them is it. For every set and every byte; no condition. -/
import Derived.Test.YtaegjpabkkoleaaStatFoldRaw
import Derived.Test.YtaegjpabkkoleaaSetsFoldRaw
import Derived.Test.YtaegjpabkkoleaaAid
namespace Go.Proofs.Ytaegjpabkkoleaa.Pure
open Go.RowKit Go.Proofs.Ytaegjpabkkoleaa.PFoldRaw Go.Proofs.YtaegjpabkkoleaaW.PrintWords Go.Proofs.YtaegjpabkkoleaaW.PrintLast Go.Proofs.Ytaegjpabkkoleaa.Aid Go.Proofs.Ytaegjpabkkoleaa.SetsFoldRaw

theorem of_f (l : List Int) (h : ∀ x ∈ l, 0 ≤ x ∧ x < 256) : fold_Of.f l = some (ofS l).tup := by unfold fold_Of.f; rw [if_pos h]
theorem un_f (s o : SS) : fold_Set_Union.f s.tup.1 s.tup.2.1 s.tup.2.2.1 s.tup.2.2.2 o.tup.1 o.tup.2.1 o.tup.2.2.1 o.tup.2.2.2 = some (unionS s o).tup := by
  unfold fold_Set_Union.f; exact congrArg (fun z => some (SS.tup z)) (by rfl)
theorem len_f (s : SS) : fold_Set_Len.f s.tup.1 s.tup.2.1 s.tup.2.2.1 s.tup.2.2.2 = some (lenS s) := by
  unfold fold_Set_Len.f; exact congrArg (fun z => some (lenS z)) (by rfl)
theorem with_f (s : SS) (c : Int) (h : 0 ≤ c ∧ c < 256) : fold_Set_With.f s.tup.1 s.tup.2.1 s.tup.2.2.1 s.tup.2.2.2 c = some (withS s c).tup := by
  unfold fold_Set_With.f; rw [if_pos h]; exact congrArg (fun z => some (SS.tup (withS z c))) (by rfl)
theorem has_f (s : SS) (c : Int) (h : 0 ≤ c ∧ c < 256) : fold_Set_Has.f s.tup.1 s.tup.2.1 s.tup.2.2.1 s.tup.2.2.2 c = some (hasS s c) := by
  unfold fold_Set_Has.f; rw [if_pos h]; exact congrArg (fun z => some (hasS z c)) (by rfl)
theorem list_f (s : SS) : fold_Set_List.f s.tup.1 s.tup.2.1 s.tup.2.2.1 s.tup.2.2.2 = some (listS s) := by
  unfold fold_Set_List.f; exact congrArg (fun z => some (listS z)) (by rfl)
theorem same_n (s : SS) : (!(s.tup.1 == s.tup.1) || (!(s.tup.2.1 == s.tup.2.1) || (!(s.tup.2.2.1 == s.tup.2.2.1) || (!(s.tup.2.2.2 == s.tup.2.2.2))))) = false := by simp
theorem same_b (s : SS) : (s.tup.1 == s.tup.1 && (s.tup.2.1 == s.tup.2.1 && (s.tup.2.2.1 == s.tup.2.2.1 && (s.tup.2.2.2 == s.tup.2.2.2)))) = true := by simp
theorem of_list {s : SS} (h : Wf s) : ofS (listS s) = s := by
  have hb : ∀ x ∈ listS s, 0 ≤ x ∧ x < 256 := fun x hx => ((mem_list s x).mp hx).1
  obtain ⟨w, e⟩ := of_spec (listS s) hb
  refine set_ext w h (fun y y0 y1 => ?_)
  rw [e y y0 y1]
  cases hh : hasS s y with
  | true => exact decide_eq_true ((mem_list s y).mpr ⟨⟨y0, y1⟩, hh⟩)
  | false => exact decide_eq_false (fun k => by rw [((mem_list s y).mp k).2] at hh; cases hh)
/-- the part of the list below a number, and what is left -/
theorem up_succ (p : Int → Bool) (n : Nat) : ((List.range (n + 1)).map (fun (n : Nat) => (n : Int))).filter p = ((List.range n).map (fun (n : Nat) => (n : Int))).filter p ++ (if p (n : Int) = true then [(n : Int)] else []) := by
  rw [List.range_succ, List.map_append, List.filter_append]
  congr 1
  simp only [List.map_cons, List.map_nil, List.filter_cons, List.filter_nil]
theorem up_pre (p : Int → Bool) (d : Nat) : ∀ n : Nat, n + d = 256 → ∃ t, ((List.range 256).map (fun (n : Nat) => (n : Int))).filter p = ((List.range n).map (fun (n : Nat) => (n : Int))).filter p ++ t := by
  induction d with
  | zero => intro n hn; exact ⟨[], by rw [List.append_nil, show n = 256 by omega]⟩
  | succ d ih =>
    intro n hn
    obtain ⟨t, ht⟩ := ih (n + 1) (by omega)
    rw [up_succ p n] at ht
    exact ⟨_, by rw [ht, List.append_assoc]⟩
theorem one_count (m : Nat) : ∀ n : Nat, (((List.range n).map (fun (n : Nat) => (n : Int))).filter (fun y => decide (y = (m : Int)))).length = if m < n then 1 else 0
  | 0 => by simp
  | n + 1 => by
    rw [up_succ, List.length_append, one_count m n]
    by_cases e : n = m
    · subst e; simp
    · rw [if_neg (show ¬ (decide ((n : Int) = (m : Int)) = true) by simp; omega)]
      by_cases k : m < n
      · rw [if_pos k, if_pos (by omega)]; rfl
      · rw [if_neg k, if_neg (by omega)]; rfl
theorem or_count (l : List Int) (p q : Int → Bool) (h : ∀ x, p x = true → q x = false) : (l.filter (fun x => p x || q x)).length = (l.filter p).length + (l.filter q).length := by
  induction l with
  | nil => simp
  | cons x l ih =>
    simp only [List.filter_cons]
    have := h x
    cases hp : p x <;> cases hq : q x <;> simp_all <;> omega
theorem with_same {s : SS} (h : Wf s) (c : Int) (h0 : 0 ≤ c) (h1 : c < 256) (hh : hasS s c = true) : withS s c = s := by
  refine set_ext (wf_with h c h0 h1) h (fun y y0 y1 => ?_)
  rw [has_with h c y h0 h1 y0 y1]
  by_cases e : y = c
  · rw [e, hh, Bool.or_true]
  · rw [decide_eq_false e, Bool.false_or]
theorem with_more {s : SS} (h : Wf s) (c : Int) (h0 : 0 ≤ c) (h1 : c < 256) (hh : hasS s c = false) : lenS (withS s c) = ((listS s).length : Int) + 1 := by
  rw [len_list (wf_with h c h0 h1)]
  have e : listS (withS s c) = ((List.range 256).map (fun (n : Nat) => (n : Int))).filter (fun y => decide (y = c) || hasS s y) := by
    unfold listS
    refine List.filter_congr (fun x hx => ?_)
    obtain ⟨n, hn, rfl⟩ := List.mem_map.mp hx
    have := List.mem_range.mp hn
    exact has_with h c _ h0 h1 (by omega) (by omega)
  obtain ⟨m, rfl⟩ := Int.eq_ofNat_of_zero_le h0
  have o := one_count m 256
  rw [if_pos (show m < 256 by omega)] at o
  have e2 := or_count ((List.range 256).map (fun (n : Nat) => (n : Int))) (fun y => decide (y = (m : Int))) (hasS s) (fun x hx => by rw [of_decide_eq_true hx]; exact hh)
  rw [e, e2, o]
  unfold listS
  omega
theorem loop (s : SS) (h : Wf s) (c : Int) (h0 : 0 ≤ c) (h1 : c < 256) (d : Nat) : ∀ n : Nat, n + d = 256 →
    Ev (fun k => seinelaw01_FoldRaw.l0 k c (listS s) (((((List.range n).map (fun (n : Nat) => (n : Int))).filter (hasS s)).length : Nat) : Int) (n : Int) s.tup.1 s.tup.2.1 s.tup.2.2.1 s.tup.2.2.2) true := by
  induction d with
  | zero =>
    intro n hn
    have e : (((List.range n).map (fun (n : Nat) => (n : Int))).filter (hasS s)) = listS s := by rw [show n = 256 by omega]; rfl
    have hlen : (listS s).length ≤ 256 := by unfold listS; exact Nat.le_trans (List.length_filter_le _ _) (by simp)
    have hwu : unionS (withS s c) s = withS s c := by
      have hw := wf_with h c h0 h1
      refine set_ext (wf_union hw h) hw (fun y y0 y1 => ?_)
      rw [has_union hw h y y0 y1, has_with h c y h0 h1 y0 y1, Bool.or_assoc, Bool.or_self]
    have hwc : hasS (withS s c) c = true := by rw [has_with h c c h0 h1 h0 h1]; simp
    rw [e]
    refine Ev.succ ?_
    simp (implicitDefEqProofs := false) only [seinelaw01_FoldRaw.l0, if_neg (show ¬ (n : Int) < 256 by omega), with_f s c ⟨h0, h1⟩, has_f s c ⟨h0, h1⟩, Option.bind_some, has_f (withS s c) c ⟨h0, h1⟩, hwc, if_true, len_f, un_f, hwu, same_b]
    cases hh : hasS s c with
    | true =>
      have e1 := len_list h
      rw [with_same h c h0 h1 hh, e1]
      simp (implicitDefEqProofs := false) only [if_true, Int.add_zero, w64 (show -9223372036854775808 ≤ ((listS s).length : Int) by omega) (show ((listS s).length : Int) ≤ 9223372036854775807 by omega)]
      exact Ev.const (Eq.refl (some true))
    | false =>
      have e1 := with_more h c h0 h1 hh
      rw [e1]
      simp (implicitDefEqProofs := false) only [Bool.false_eq_true, if_false, if_true, w64 (show -9223372036854775808 ≤ ((listS s).length : Int) + 1 by omega) (show ((listS s).length : Int) + 1 ≤ 9223372036854775807 by omega)]
      exact Ev.const (Eq.refl (some true))
  | succ d ih =>
    intro n hn
    have := ih (n + 1) (by omega)
    rw [up_succ (hasS s) n] at this
    obtain ⟨t, ht⟩ := up_pre (hasS s) d (n + 1) (by omega)
    rw [up_succ (hasS s) n] at ht
    have hl : listS s = ((List.range 256).map (fun (n : Nat) => (n : Int))).filter (hasS s) := rfl
    have hlen : (listS s).length ≤ 256 := by unfold listS; exact Nat.le_trans (List.length_filter_le _ _) (by simp)
    rw [← hl] at ht
    refine Ev.succ ?_
    simp (implicitDefEqProofs := false) only [seinelaw01_FoldRaw.l0, if_pos (show (n : Int) < 256 by omega), show (n : Int) % 256 = (n : Int) by omega, has_f s (n : Int) ⟨by omega, by omega⟩, Option.bind_some, w64 (show -9223372036854775808 ≤ (n : Int) + 1 by omega) (show (n : Int) + 1 ≤ 9223372036854775807 by omega)]
    cases hh : hasS s (n : Int) with
    | false =>
      rw [hh, if_neg (by decide), List.append_nil] at this
      simp only [Bool.false_eq_true, if_false]
      exact this
    | true =>
      rw [hh, if_pos rfl] at ht this
      rw [List.length_append, List.length_cons, List.length_nil] at this
      have hz := congrArg List.length ht
      rw [List.length_append, List.length_append, List.length_cons, List.length_nil] at hz
      have hr : rd (listS s) (((((List.range n).map (fun (n : Nat) => (n : Int))).filter (hasS s)).length : Nat) : Int) = (n : Int) := by
        rw [rd_nat _ _ (by omega)]
        rw [List.getElem_of_eq ht, List.getElem_append_left (by simp), List.getElem_append_right (by omega)]
        simp
      simp only [if_true, hr, if_neg (show ¬ ((((((List.range n).map (fun (n : Nat) => (n : Int))).filter (hasS s)).length : Nat) : Int) ≥ ((listS s).length : Int)) by omega), if_pos (show (0 : Int) ≤ (((((List.range n).map (fun (n : Nat) => (n : Int))).filter (hasS s)).length : Nat) : Int) by omega), if_pos (show (((((List.range n).map (fun (n : Nat) => (n : Int))).filter (hasS s)).length : Nat) : Int) < ((listS s).length : Int) by omega), w64 (show -9223372036854775808 ≤ (((((List.range n).map (fun (n : Nat) => (n : Int))).filter (hasS s)).length : Nat) : Int) + 1 by omega) (show (((((List.range n).map (fun (n : Nat) => (n : Int))).filter (hasS s)).length : Nat) : Int) + 1 ≤ 9223372036854775807 by omega)]
      exact this
theorem raw (s : SS) (h : Wf s) (c : Int) (h0 : 0 ≤ c) (h1 : c < 256) : ∃ k, seinelaw01_FoldRaw.f k s.tup.1 s.tup.2.1 s.tup.2.2.1 s.tup.2.2.2 c = some true := by
  refine Ev.rounds (g := fun k => _) (r := true) ?_
  unfold seinelaw01_FoldRaw.f
  have hb : ∀ x ∈ listS s, 0 ≤ x ∧ x < 256 := fun x hx => ((mem_list s x).mp hx).1
  simp (implicitDefEqProofs := false) only [seinelaw01_awake.f, Option.bind_some, if_true, list_f, len_f, len_list h, of_f _ hb, of_list h, same_n]
  refine Ev.succ ?_
  simp only [seinelaw01_FoldRaw.j0, Bool.false_eq_true, if_false]
  exact loop s h c h0 h1 256 0 (by omega)
theorem wfu64 {x : Int} (h : (Lit.int .u64 x).wf = true) : 0 ≤ x ∧ x < 18446744073709551616 := by
  have := h
  simp [Lit.wf, IntKind.min, IntKind.max, IntKind.signed, IntKind.bits] at this
  omega
theorem FoldRaw : Go.Proofs.Ytaegjpabkkoleaa.StatFoldRaw.Pure := by
  intro a c ⟨w0, w1, w2, w3⟩ hc
  have c8 := wf8 hc
  exact raw ⟨a.f0, a.f1, a.f2, a.f3⟩ ⟨wfu64 w0, wfu64 w1, wfu64 w2, wfu64 w3⟩ c c8.1 (by omega)

end Go.Proofs.Ytaegjpabkkoleaa.Pure
