/- FoldSets: the set of any bytes, what is in it, with one more, together with another one, how many, and all of them, are the document's. For every two lists of bytes and every two bytes; no condition. -/
import Derived.Test.YtaegjpabkkoleaaSetsFoldSets
import Derived.Test.YtaegjpabkkoleaaAid
import Derived.Lib.Bytes
namespace Go.Proofs.Ytaegjpabkkoleaa.Pure
open Go.RowKit Go.Proofs.Ytaegjpabkkoleaa.PFoldSets Go.Proofs.YtaegjpabkkoleaaW.PrintWords Go.Proofs.YtaegjpabkkoleaaW.PrintLast Go.Proofs.Ytaegjpabkkoleaa.Aid Go.Proofs.Ytaegjpabkkoleaa.SetsFoldSets

theorem str_app (a b : List Int) : strOfNums (a ++ b) = strOfNums a ++ strOfNums b := by
  apply ByteArray.ext
  simp [strOfNums, ByteArray.data_append]
theorem str_list (a : List Int) : (strOfNums a).toList = a.map fun n => UInt8.ofNat n.toNat := by
  exact Go.Lib.strOfNums_toList a
theorem str_inj : ∀ {a b : List Int}, Byt a → Byt b → (strOfNums a).toList = (strOfNums b).toList → a = b
  | [], [], _, _, _ => rfl
  | [], _ :: _, _, _, h => by rw [str_list, str_list] at h; simp at h
  | _ :: _, [], _, _, h => by rw [str_list, str_list] at h; simp at h
  | x :: a, y :: b, ha, hb, h => by
    rw [str_list, str_list, List.map_cons, List.map_cons] at h
    injection h with h1 h2
    have hx := ha x (by simp)
    have hy := hb y (by simp)
    have e : x = y := by
      have h3 := congrArg UInt8.toNat h1
      simp only [UInt8.toNat_ofNat'] at h3
      omega
    rw [e, str_inj (fun p hp => ha p (List.mem_cons_of_mem _ hp)) (fun p hp => hb p (List.mem_cons_of_mem _ hp)) (by rw [str_list, str_list]; exact h2)]
theorem of_f (l : List Int) (h : ∀ x ∈ l, 0 ≤ x ∧ x < 256) : fold_Of.f l = some (ofS l).tup := by unfold fold_Of.f; rw [if_pos h]
theorem un_f (s o : SS) : fold_Set_Union.f s.tup.1 s.tup.2.1 s.tup.2.2.1 s.tup.2.2.2 o.tup.1 o.tup.2.1 o.tup.2.2.1 o.tup.2.2.2 = some (unionS s o).tup := by
  unfold fold_Set_Union.f; exact congrArg (fun z => some (SS.tup z)) (by rfl)
theorem len_f (s : SS) : fold_Set_Len.f s.tup.1 s.tup.2.1 s.tup.2.2.1 s.tup.2.2.2 = some (lenS s) := by
  unfold fold_Set_Len.f; exact congrArg (fun z => some (lenS z)) (by rfl)
theorem with_f (s : SS) (c : Int) (h : 0 ≤ c ∧ c < 256) : fold_Set_With.f s.tup.1 s.tup.2.1 s.tup.2.2.1 s.tup.2.2.2 c = some (withS s c).tup := by
  unfold fold_Set_With.f; rw [if_pos h]; exact congrArg (fun z => some (SS.tup (withS z c))) (by rfl)
theorem has_f (s : SS) (c : Int) (h : 0 ≤ c ∧ c < 256) : fold_Set_Has.f s.tup.1 s.tup.2.1 s.tup.2.2.1 s.tup.2.2.2 c = some (hasS s c) := by
  unfold fold_Set_Has.f; rw [if_pos h]; exact congrArg (fun z => some (hasS z c)) (by rfl)
theorem list_f (s : SS) : fold_Set_List.f s.tup.1 s.tup.2.1 s.tup.2.2.1 s.tup.2.2.2 = some (listS s) := by
  unfold fold_Set_List.f; exact congrArg (fun z => some (listS z)) (by rfl)
theorem in_loop (l : List Int) (hl : l.length ≤ 1000) (hb : Byt l) (c : Int) (d : Nat) : ∀ n : Nat, n + d = l.length →
    Ev (fun k => seineref01_In.l0 k (strOfNums l) c (n : Int)) (decide (c ∈ l.drop n)) := by
  have hs := size_str l
  induction d with
  | zero =>
    intro n hn
    refine Ev.succ ?_
    simp only [seineref01_In.l0, if_neg (show ¬ (n : Int) < ((strOfNums l).size : Int) by omega)]
    exact Ev.const (by rw [List.drop_of_length_le (by omega)]; simp)
  | succ d ih =>
    intro n hn
    have hbt : bt (strOfNums l) (n : Int) = l[n] := by rw [bt_str hb (by omega) (by omega), rd_nat l n (by omega)]
    have := ih (n + 1) (by omega)
    refine Ev.succ ?_
    simp only [seineref01_In.l0, if_pos (show (n : Int) < ((strOfNums l).size : Int) by omega), if_pos (show (0 : Int) ≤ (n : Int) by omega), hbt, w64 (show -9223372036854775808 ≤ (n : Int) + 1 by omega) (show (n : Int) + 1 ≤ 9223372036854775807 by omega)]
    rw [List.drop_eq_getElem_cons (show n < l.length by omega)]
    by_cases e : l[n] = c
    · simp only [if_pos e]
      exact Ev.const (by rw [e]; simp)
    · simp only [if_neg e]
      have e2 : decide (c ∈ l[n] :: l.drop (n + 1)) = decide (c ∈ l.drop (n + 1)) := by
        rw [decide_eq_decide, List.mem_cons]
        exact ⟨fun h => h.resolve_left (fun h => e h.symm), Or.inr⟩
      rw [e2]
      exact this
theorem ref_in (l : List Int) (hl : l.length ≤ 1000) (hb : Byt l) (c : Int) : Ev (fun k => seineref01_In.f k (strOfNums l) c) (decide (c ∈ l)) :=
  in_loop l hl hb c l.length 0 (by omega)
/-- a text's bytes below a number, rising -/
def upT (l : List Int) (n : Nat) : List Int := ((List.range n).map (fun (n : Nat) => (n : Int))).filter (fun x => decide (x ∈ l))
theorem upT_succ (l : List Int) (n : Nat) : upT l (n + 1) = upT l n ++ (if (n : Int) ∈ l then [(n : Int)] else []) := by
  unfold upT
  rw [List.range_succ, List.map_append, List.filter_append]
  congr 1
  simp only [List.map_cons, List.map_nil, List.filter_cons, List.filter_nil, decide_eq_true_eq]
theorem upT_len (l : List Int) (n : Nat) : (upT l n).length ≤ n := by
  unfold upT
  exact Nat.le_trans (List.length_filter_le _ _) (by simp)
theorem list_loop (l : List Int) (hl : l.length ≤ 1000) (hb : Byt l) (d : Nat) : ∀ n : Nat, n + d = 256 →
    Ev (fun k => seineref01_List.l0 k (strOfNums l) (strOfNums (upT l n)) (n : Int)) (strOfNums (upT l 256)) := by
  induction d with
  | zero =>
    intro n hn
    refine Ev.succ ?_
    simp only [seineref01_List.l0, if_neg (show ¬ (n : Int) < 256 by omega)]
    exact Ev.const (by rw [show n = 256 by omega])
  | succ d ih =>
    intro n hn
    have := ih (n + 1) (by omega)
    have hs := size_str (upT l n)
    have hu := upT_len l n
    refine Ev.succ ?_
    simp only [seineref01_List.l0, if_pos (show (n : Int) < 256 by omega), show (n : Int) % 256 = (n : Int) by omega, w64 (show -9223372036854775808 ≤ (n : Int) + 1 by omega) (show (n : Int) + 1 ≤ 9223372036854775807 by omega), Option.bind_some]
    refine Ev.bind (ref_in l hl hb (n : Int)) ?_
    rw [upT_succ] at this
    by_cases e : (n : Int) ∈ l
    · rw [if_pos e, str_app] at this
      have h1 := size_str [(n : Int)]
      rw [List.length_cons, List.length_nil] at h1
      simp only [decide_eq_true e, if_true, if_pos (show (strOfNums (upT l n)).size + (strOfNums [(n : Int)]).size ≤ 9223372036854775807 by omega)]
      exact this
    · rw [if_neg e, List.append_nil] at this
      simp only [decide_eq_false e, Bool.false_eq_true, if_false]
      exact this
theorem ref_list (l : List Int) (hl : l.length ≤ 1000) (hb : Byt l) : Ev (fun k => seineref01_List.f k (strOfNums l)) (strOfNums (upT l 256)) :=
  list_loop l hl hb 256 0 (by omega)

theorem FoldSets : seinelaw01_FoldSets.Pure := by
  intro a b c d _ _ ha _ _ hb hc hd
  have ba := byt_of ha
  have bb := byt_of hb
  have c8 := wf8 hc
  have d8 := wf8 hd
  have ca : ∀ x ∈ a, 0 ≤ x ∧ x < 256 := fun x hx => by have := ba x hx; omega
  have cb : ∀ x ∈ b, 0 ≤ x ∧ x < 256 := fun x hx => by have := bb x hx; omega
  refine Ev.rounds (g := fun k => _) (r := true) ?_
  unfold seinelaw01_FoldSets.f
  simp only [seinelaw01_awake.f, Option.bind_some, if_true]
  have ht : Ev (fun k => seinelaw01_FoldSets.j0 k a b c d true) true := by
    refine Ev.succ ?_
    simp only [seinelaw01_FoldSets.j0, if_true]
    exact Ev.const rfl
  by_cases h1 : (a.length : Int) > 300
  · simp only [if_pos h1]; exact ht
  by_cases h2 : (b.length : Int) > 300
  · simp only [if_neg h1, decide_eq_true h2]; exact ht
  simp only [if_neg h1, decide_eq_false h2]
  have bc : ∀ x ∈ a ++ b, 0 ≤ x ∧ x < 256 := by
    intro x hx
    rcases List.mem_append.mp hx with hx | hx
    · exact ca x hx
    · exact cb x hx
  have bc' : Byt (a ++ b) := fun x hx => by have := bc x hx; omega
  obtain ⟨wa, sa⟩ := of_spec a ca
  obtain ⟨wb, sb⟩ := of_spec b cb
  have wu := wf_union wa wb
  have su : ∀ y, 0 ≤ y → y < 256 → hasS (unionS (ofS a) (ofS b)) y = decide (y ∈ a ++ b) := by
    intro y y0 y1
    rw [has_union wa wb y y0 y1, sa y y0 y1, sb y y0 y1, ← Bool.decide_or, decide_eq_decide, List.mem_append]
  have hlist : listS (unionS (ofS a) (ofS b)) = upT (a ++ b) 256 := by
    unfold listS upT
    refine List.filter_congr (fun x hx => ?_)
    obtain ⟨n, hn, rfl⟩ := List.mem_map.mp hx
    have := List.mem_range.mp hn
    exact su _ (by omega) (by omega)
  have hlen := len_list wu
  rw [hlist] at hlen
  have s1 := size_str a
  have s2 := size_str b
  have hla := ref_in a (by omega) ba
  have hlb := ref_in (a ++ b) (by rw [List.length_append]; omega) bc'
  have hll := ref_list (a ++ b) (by rw [List.length_append]; omega) bc'
  have i1 := sa c c8.1 (by omega)
  have i2 := has_with wa c d c8.1 (by omega) d8.1 (by omega)
  rw [sa d d8.1 (by omega)] at i2
  have i3 := su c c8.1 (by omega)
  have hz := size_str (upT (a ++ b) 256)
  refine Ev.succ ?_
  simp (implicitDefEqProofs := false) only [seinelaw01_FoldSets.j0, Bool.false_eq_true, if_false, of_f a ca, of_f b cb, Option.bind_some, un_f, if_pos (show (strOfNums a).size + (strOfNums b).size ≤ 9223372036854775807 by omega), with_f _ c ⟨c8.1, by omega⟩, has_f _ c ⟨c8.1, by omega⟩, has_f _ d ⟨d8.1, by omega⟩, len_f, list_f, i1, i2, i3, ← str_app, hlen, hlist]
  refine Ev.bind hll ?_
  refine Ev.bind (hla c) ?_
  simp only [BEq.rfl, if_true, hz]
  by_cases e : c = d
  · simp only [if_pos e, decide_eq_true (show d = c from e.symm), Bool.true_or, BEq.rfl, if_true]
    refine Ev.bind (hlb c) ?_
    simp only [BEq.rfl, if_true, eq_self]
    exact Ev.const (Eq.refl (some true))
  · simp only [if_neg e, decide_eq_false (show ¬ d = c from fun h => e h.symm), Bool.false_or]
    refine Ev.bind (hla d) ?_
    simp only [BEq.rfl, if_true]
    refine Ev.bind (hlb c) ?_
    simp only [BEq.rfl, if_true, eq_self]
    exact Ev.const (Eq.refl (some true))

end Go.Proofs.Ytaegjpabkkoleaa.Pure
