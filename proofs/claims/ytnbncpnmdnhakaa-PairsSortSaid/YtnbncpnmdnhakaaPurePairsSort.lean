/- PairsSort: any pairs in order, each once, those of two lists together, and whether any rise, are the document's. For every two lists; no condition. -/
import Derived.Test.YtnbncpnmdnhakaaStatPairsSort
import Derived.Test.YtnbncpnmdnhakaaPrsPairsSort
namespace Go.Proofs.Ytnbncpnmdnhakaa.Pure
open Go.RowKit Go.Proofs.Ytnbncpnmdnhakaa.PPairsSort Go.Proofs.YtnbncpnmdnhakaaW.PrintWords Go.Proofs.YtnbncpnmdnhakaaW.PrintLast Go.Proofs.Ytnbncpnmdnhakaa.Aid Go.Proofs.Ytnbncpnmdnhakaa.OrdPairsSort

instance decLt (a b : PP) : Decidable (lt a b) := by unfold lt; infer_instance
theorem rless_f (a b : PP) : seineref03_Less.f a.f0 a.f1 b.f0 b.f1 = some (decide (lt a b)) := by
  unfold seineref03_Less.f
  by_cases h : lt a b
  · rw [decide_eq_true h]
    rw [lt_iff] at h
    by_cases h0 : a.f0 < b.f0
    · simp [h0]
    · have h1 : a.f0 = b.f0 := by omega
      have h2 : a.f1 < b.f1 := by omega
      simp [h1, h2]
  · rw [decide_eq_false h]
    rw [lt_iff] at h
    have h0 : ¬ a.f0 < b.f0 := by omega
    by_cases h1 : a.f0 = b.f0
    · have h2 : ¬ a.f1 < b.f1 := by omega
      simp [h1, h2]
    · simp [h0, h1]
theorem ne_b (a b : PP) : (!((a.f0) == (b.f0)) || (!((a.f1) == (b.f1)))) = !decide (a = b) := eq_b a b
/-- one more, in order, once -/
def putR : List PP → PP → List PP
  | [], p => [p]
  | x :: l, p => if lt x p then x :: putR l p else if x = p then x :: l else p :: x :: l
theorem putR_mem (l : List PP) (p q : PP) : q ∈ putR l p ↔ q ∈ l ∨ q = p := by
  induction l with
  | nil => simp [putR]
  | cons x l ih =>
    unfold putR
    by_cases h1 : lt x p
    · rw [if_pos h1, List.mem_cons, ih, List.mem_cons, or_assoc]
    · rw [if_neg h1]
      by_cases h2 : x = p
      · subst h2
        rw [if_pos rfl]
        constructor
        · exact .inl
        · rintro (h | rfl)
          · exact h
          · exact List.mem_cons_self
      · rw [if_neg h2, List.mem_cons, or_comm]
theorem putR_srt {l : List PP} (p : PP) (h : Srt l) : Srt (putR l p) := by
  induction l with
  | nil => exact List.pairwise_singleton _ _
  | cons x l ih =>
    have hs := List.pairwise_cons.mp h
    unfold putR
    by_cases h1 : lt x p
    · rw [if_pos h1]
      refine List.pairwise_cons.mpr ⟨fun q hq => ?_, ih hs.2⟩
      rcases (putR_mem l p q).mp hq with hq | rfl
      · exact hs.1 q hq
      · exact h1
    · rw [if_neg h1]
      by_cases h2 : x = p
      · rw [if_pos h2]; exact h
      · rw [if_neg h2]
        have hpx : lt p x := by
          rcases lt_tot x p with e | e | e
          · exact absurd e h2
          · exact absurd e h1
          · exact e
        refine List.pairwise_cons.mpr ⟨fun q hq => ?_, h⟩
        rcases List.mem_cons.mp hq with rfl | hq
        · exact hpx
        · exact lt_tr hpx (hs.1 q hq)
theorem putR_len (l : List PP) (p : PP) : (putR l p).length ≤ l.length + 1 := by
  induction l with
  | nil => simp [putR]
  | cons x l ih =>
    unfold putR
    split
    · simp; omega
    · split <;> simp
theorem snoc_take (x : List PP) (n : Nat) (h : n < x.length) (out : List PP) : out ++ x.drop n = (out ++ [x[n]]) ++ x.drop (n + 1) := by
  rw [List.drop_eq_getElem_cons h, List.append_assoc]; rfl
/-- behind the place: what is left is copied -/
theorem put_done (x : List PP) (p : PP) (hx : x.length ≤ 1000) (d : Nat) : ∀ n : Nat, n + d = x.length → ∀ out : List PP, out.length ≤ 2000 + n →
    Ev (fun k => seineref03_Put.l0 k x out true (n : Int) p.f0 p.f1) (out ++ x.drop n) := by
  induction d with
  | zero =>
    intro n hn out _
    refine Ev.succ ?_
    simp only [seineref03_Put.l0]
    simp only [if_neg (show ¬ (n : Int) < (x.length : Int) by omega), if_true]
    exact Ev.const (by rw [List.drop_of_length_le (by omega), List.append_nil])
  | succ d ih =>
    intro n hn out ho
    have := ih (n + 1) (by omega) (out ++ [x[n]]) (by simp; omega)
    rw [← snoc_take x n (by omega)] at this
    refine Ev.succ ?_
    simp only [seineref03_Put.l0]
    simp only [if_pos (show (n : Int) < (x.length : Int) by omega), if_true]
    refine Ev.succ ?_
    simp only [seineref03_Put.j1, Bool.false_eq_true, if_false]
    simp only [if_pos (show (n : Int) < (x.length : Int) by omega), if_pos (show (0 : Int) ≤ (n : Int) by omega), if_pos (show out.length < 8796093022208 by omega), rdP_nat x n (by omega), w64 (show -9223372036854775808 ≤ (n : Int) + 1 by omega) (show (n : Int) + 1 ≤ 9223372036854775807 by omega)]
    exact this
theorem put_loop (x : List PP) (p : PP) (hx : x.length ≤ 1000) (d : Nat) : ∀ n : Nat, n + d = x.length → ∀ out : List PP, out.length ≤ 1000 + n →
    Ev (fun k => seineref03_Put.l0 k x out false (n : Int) p.f0 p.f1) (out ++ putR (x.drop n) p) := by
  induction d with
  | zero =>
    intro n hn out ho
    refine Ev.succ ?_
    simp only [seineref03_Put.l0]
    simp only [if_neg (show ¬ (n : Int) < (x.length : Int) by omega), Bool.false_eq_true, if_false, if_pos (show out.length < 8796093022208 by omega)]
    exact Ev.const (by rw [List.drop_of_length_le (by omega)]; rfl)
  | succ d ih =>
    intro n hn out ho
    have hd := put_done x p hx d (n + 1) (by omega)
    have hi := ih (n + 1) (by omega) (out ++ [x[n]]) (by simp; omega)
    rw [List.drop_eq_getElem_cons (show n < x.length by omega)]
    unfold putR
    refine Ev.succ ?_
    simp only [seineref03_Put.l0]
    simp only [if_pos (show (n : Int) < (x.length : Int) by omega), if_pos (show (0 : Int) ≤ (n : Int) by omega), Bool.false_eq_true, if_false, rdP_nat x n (by omega), rless_f, Option.bind_some]
    refine Ev.succ ?_
    by_cases h1 : lt x[n] p
    · simp only [if_pos h1, decide_eq_true h1, Bool.not_true]
      simp only [seineref03_Put.j1, Bool.false_eq_true, if_false]
      simp only [if_pos (show (n : Int) < (x.length : Int) by omega), if_pos (show (0 : Int) ≤ (n : Int) by omega), if_pos (show out.length < 8796093022208 by omega), rdP_nat x n (by omega), w64 (show -9223372036854775808 ≤ (n : Int) + 1 by omega) (show (n : Int) + 1 ≤ 9223372036854775807 by omega)]
      rw [List.append_assoc] at hi
      exact hi
    · simp only [if_neg h1, decide_eq_false h1, Bool.not_false]
      simp only [seineref03_Put.j1, if_true]
      simp only [if_pos (show (n : Int) < (x.length : Int) by omega), if_pos (show (0 : Int) ≤ (n : Int) by omega), if_pos (show out.length < 8796093022208 by omega), rdP_nat x n (by omega), w64 (show -9223372036854775808 ≤ (n : Int) + 1 by omega) (show (n : Int) + 1 ≤ 9223372036854775807 by omega), ne_b, Option.bind_some]
      by_cases h2 : x[n] = p
      · simp only [if_pos h2, decide_eq_true h2, Bool.not_true, Bool.false_eq_true, if_false]
        have := hd (out ++ [x[n]]) (by simp; omega)
        rw [List.append_assoc] at this
        rw [h2] at this ⊢
        exact this
      · simp only [if_neg h2, decide_eq_false h2, Bool.not_false, if_true]
        have := hd (out ++ [p] ++ [x[n]]) (by simp; omega)
        rw [List.append_assoc, List.append_assoc] at this
        simp only [if_pos (show (out ++ [(⟨p.f0, p.f1⟩ : S23)]).length < 8796093022208 by simp; omega)]
        rw [show (out ++ [(⟨p.f0, p.f1⟩ : S23)] ++ [(⟨x[n].f0, x[n].f1⟩ : S23)]) = out ++ [p] ++ [x[n]] from rfl, List.append_assoc]
        exact this
theorem put_f (x : List PP) (p : PP) (hx : x.length ≤ 1000) : Ev (fun k => seineref03_Put.f k x p.f0 p.f1) (putR x p) := by
  have := put_loop x p hx x.length 0 (by omega) [] (by simp)
  exact this
/-- all of a list put, one after the other -/
def putsR (out l : List PP) : List PP := l.foldl putR out
theorem puts_srt {out : List PP} (h : Srt out) (l : List PP) : Srt (putsR out l) := by
  induction l generalizing out with
  | nil => exact h
  | cons x l ih => exact ih (putR_srt x h)
theorem puts_mem (out l : List PP) (q : PP) : q ∈ putsR out l ↔ q ∈ out ∨ q ∈ l := by
  induction l generalizing out with
  | nil => simp [putsR]
  | cons x l ih =>
    show q ∈ putsR (putR out x) l ↔ _
    rw [ih, putR_mem, List.mem_cons, or_assoc]
theorem puts_len (out l : List PP) : (putsR out l).length ≤ out.length + l.length := by
  induction l generalizing out with
  | nil => simp [putsR]
  | cons x l ih =>
    have := ih (putR out x)
    have h2 := putR_len out x
    show (putsR (putR out x) l).length ≤ _
    rw [List.length_cons]; omega
theorem puts_succ (out l : List PP) (n : Nat) (h : n < l.length) : putsR out (l.take (n + 1)) = putR (putsR out (l.take n)) l[n] := by
  rw [List.take_succ_eq_append_getElem h]
  unfold putsR
  rw [List.foldl_append]; rfl
theorem sort_loop (l : List PP) (hl : l.length ≤ 100) (d : Nat) : ∀ n : Nat, n + d = l.length →
    Ev (fun k => seineref03_Sort.l0 k l (putsR [] (l.take n)) (n : Int)) (putsR [] l) := by
  induction d with
  | zero =>
    intro n hn
    refine Ev.succ ?_
    simp only [seineref03_Sort.l0]
    simp only [if_neg (show ¬ (n : Int) < (l.length : Int) by omega)]
    exact Ev.const (by rw [List.take_of_length_le (by omega)])
  | succ d ih =>
    intro n hn
    have := ih (n + 1) (by omega)
    rw [puts_succ [] l n (by omega)] at this
    have hb := puts_len [] (l.take n)
    rw [List.length_take, List.length_nil] at hb
    refine Ev.succ ?_
    simp only [seineref03_Sort.l0]
    simp only [if_pos (show (n : Int) < (l.length : Int) by omega), if_pos (show (0 : Int) ≤ (n : Int) by omega), rdP_nat l n (by omega), w64 (show -9223372036854775808 ≤ (n : Int) + 1 by omega) (show (n : Int) + 1 ≤ 9223372036854775807 by omega)]
    exact Ev.bind (put_f _ _ (by omega)) this
theorem rsort_f (l : List PP) (hl : l.length ≤ 100) : Ev (fun k => seineref03_Sort.f k l) (putsR [] l) := sort_loop l hl l.length 0 (by omega)

theorem l0_all (a b : List PP) (ha : a.length ≤ 100) (hb : b.length ≤ 100) (d : Nat) : ∀ n : Nat, n + d = b.length →
    Ev (fun k => seinelaw03_PairsSort.l0 k a b (putsR [] a) (putsR (putsR [] a) (b.take n)) (n : Int)) true := by
  have lx := puts_len [] a
  rw [List.length_nil] at lx
  induction d with
  | zero =>
    intro n hn
    have hx : sortL a = putsR [] a := srt_one (sort_srt a) (puts_srt List.Pairwise.nil a) (fun p => by rw [sort_mem, puts_mem]; simp)
    have hy : joinL (sortL a) (sortL b) [] = putsR (putsR [] a) b := by
      refine srt_one (join_nil (sort_srt a) (sort_srt b)).1 (puts_srt (puts_srt List.Pairwise.nil a) b) (fun p => ?_)
      rw [(join_nil (sort_srt a) (sort_srt b)).2, sort_mem, sort_mem, puts_mem, puts_mem]; simp
    have ly := puts_len (putsR [] a) b
    refine Ev.succ ?_
    simp only [seinelaw03_PairsSort.l0]
    simp only [if_neg (show ¬ (n : Int) < (b.length : Int) by omega), List.take_of_length_le (show b.length ≤ n by omega)]
    refine Ev.bind (same_f a _ (by omega)) ?_
    simp only [sort_f a (show a.length ≤ 1000 by omega), Option.bind_some, hx]
    refine Ev.bind (same_t _ (by omega)) ?_
    simp only [if_true]
    have hm : pairs_Merge.f a b = some (putsR (putsR [] a) b) := by
      unfold pairs_Merge.f; rw [if_pos (by omega), hy]
    simp only [hm, Option.bind_some]
    refine Ev.bind (same_t _ (by omega)) ?_
    simp only [if_true]
    refine Ev.bind (rising_f a (by omega)) (Ev.const ?_)
    congr 1
    rw [beq_iff_eq, decide_eq_decide]
    rw [← hx]
    constructor
    · exact fun h => (sort_of_srt h).symm
    · intro h; rw [h]; exact sort_srt a
  | succ d ih =>
    intro n hn
    have := ih (n + 1) (by omega)
    rw [puts_succ _ b n (by omega)] at this
    have hb' := puts_len (putsR [] a) (b.take n)
    rw [List.length_take] at hb'
    refine Ev.succ ?_
    simp only [seinelaw03_PairsSort.l0]
    simp only [if_pos (show (n : Int) < (b.length : Int) by omega), if_pos (show (0 : Int) ≤ (n : Int) by omega), rdP_nat b n (by omega), w64 (show -9223372036854775808 ≤ (n : Int) + 1 by omega) (show (n : Int) + 1 ≤ 9223372036854775807 by omega)]
    exact Ev.bind (put_f _ _ (by omega)) this

theorem PairsSort : Go.Proofs.Ytnbncpnmdnhakaa.StatPairsSort.Pure := by
  intro a b _ _ _ _ _ _
  refine Ev.rounds (g := fun k => _) (r := true) ?_
  unfold seinelaw03_PairsSort.f
  refine Ev.bind awake_ev ?_
  simp only [if_true]
  have ht : Ev (fun k => seinelaw03_PairsSort.j0 k a b true) true := by
    refine Ev.succ ?_
    simp only [seinelaw03_PairsSort.j0, if_true]
    exact Ev.const rfl
  by_cases h1 : (a.length : Int) > 60
  · simp only [if_pos h1]; exact ht
  by_cases h2 : (b.length : Int) > 60
  · simp only [if_neg h1, decide_eq_true h2]; exact ht
  simp only [if_neg h1, decide_eq_false h2]
  refine Ev.succ ?_
  simp only [seinelaw03_PairsSort.j0, Bool.false_eq_true, if_false]
  refine Ev.bind (rsort_f a (by omega)) ?_
  exact l0_all a b (by omega) (by omega) b.length 0 (by omega)

end Go.Proofs.Ytnbncpnmdnhakaa.Pure
