/- AdmitBoth: with both options, just what may be with each may be; without either, all pieces; what is filtered once more is the same; order stays. For every line and every list of pairs; no condition. -/
import Derived.Test.YtfcolpemkbpgnaaStatAdmitBoth
import Derived.Test.YtfcolpemkbpgnaaOrdAdmitBoth
import Derived.Test.YtfcolpemkbpgnaaAid
namespace Go.Proofs.Ytfcolpemkbpgnaa.Pure
open Go.RowKit Go.Proofs.Ytfcolpemkbpgnaa.PAdmitBoth Go.Proofs.YtfcolpemkbpgnaaW.PrintWords Go.Proofs.YtfcolpemkbpgnaaW.PrintLast Go.Proofs.Ytfcolpemkbpgnaa.Aid Go.Proofs.Ytfcolpemkbpgnaa.OrdAdmitBoth

theorem may_eq (l : List Int) (s e : Int) (x y : Bool) : mayB l s e x y = (pieceB l s e && ((!x || freeB l s e) && (!y || wholeB l s e))) := by
  unfold mayB mustFns
  cases x <;> cases y <;> simp [mustB]

/-- the pairs of a line that may be -/
def filt (l : List Int) (xs : List S26) (x y : Bool) : List S26 := xs.filter fun p => mayB l p.f0 p.f1 x y
theorem filt_snoc (l : List Int) (xs : List S26) (p : S26) (x y : Bool) : filt l (xs ++ [p]) x y = if mayB l p.f0 p.f1 x y = true then filt l xs x y ++ [p] else filt l xs x y := by
  unfold filt; rw [List.filter_append]; split <;> simp_all
theorem filt_len (l : List Int) (xs : List S26) (x y : Bool) : (filt l xs x y).length ≤ xs.length := List.length_filter_le _ _
theorem rdT_nat (xs : List S26) (n : Nat) (h : n < xs.length) : rd_T26 xs (n : Int) = xs[n] := by
  unfold rd_T26; rw [Int.toNat_natCast, List.getD_eq_getElem?_getD, List.getElem?_eq_getElem h]; rfl
theorem take_snoc' (xs : List S26) (n : Nat) (h : n < xs.length) : xs.take (n + 1) = xs.take n ++ [xs[n]] := List.take_succ_eq_append_getElem h

theorem our_filter (l : List Int) (xs : List S26) (hx : xs.length ≤ 100) (x y : Bool) (d : Nat) : ∀ n : Nat, n + d = xs.length →
    Ev (fun k => admit_Filter.l0 k l x y (filt l (xs.take n) x y) xs (xs.length : Int) (n : Int)) (filt l xs x y) := by
  induction d with
  | zero =>
    intro n hn
    refine Ev.succ ?_
    simp only [admit_Filter.l0]
    simp only [if_neg (show ¬ (n : Int) < (xs.length : Int) by omega)]
    exact Ev.const (by rw [List.take_of_length_le (by omega)])
  | succ d ih =>
    intro n hn
    have hl := filt_len l (xs.take n) x y
    have hl2 : (xs.take n).length ≤ 100 := by rw [List.length_take]; omega
    have hs := filt_snoc l (xs.take n) xs[n] x y
    rw [← take_snoc' xs n (by omega)] at hs
    have ih' := ih (n + 1) (by omega)
    refine Ev.succ ?_
    simp only [admit_Filter.l0]
    simp only [if_pos (show (n : Int) < (xs.length : Int) by omega), if_pos (show (0 : Int) ≤ (n : Int) by omega), rdT_nat xs n (by omega), admit_May.f, Option.bind_some, w64 (show -9223372036854775808 ≤ (n : Int) + 1 by omega) (show (n : Int) + 1 ≤ 9223372036854775807 by omega)]
    rw [hs] at ih'
    cases hm : mayB l xs[n].f0 xs[n].f1 x y
    · rw [hm] at ih'
      simp only [Bool.false_eq_true, if_false] at ih' ⊢
      exact ih'
    · rw [hm] at ih'
      simp only [if_true, if_pos (show (filt l (xs.take n) x y).length < 8796093022208 by omega)] at ih' ⊢
      exact ih'
theorem our_filter_f (l : List Int) (xs : List S26) (hx : xs.length ≤ 100) (x y : Bool) : Ev (fun k => admit_Filter.f k l xs x y) (filt l xs x y) :=
  our_filter l xs hx x y xs.length 0 (by omega)

theorem same_self (xs : List S26) (hx : xs.length ≤ 9223372036854775806) (d : Nat) : ∀ n : Nat, n + d = xs.length → Ev (fun k => seineref03_Same.l0 k xs xs (n : Int)) true := by
  induction d with
  | zero =>
    intro n hn
    refine Ev.succ ?_
    simp only [seineref03_Same.l0]
    simp only [if_neg (show ¬ (n : Int) < (xs.length : Int) by omega)]
    exact Ev.const rfl
  | succ d ih =>
    intro n hn
    refine Ev.succ ?_
    simp only [seineref03_Same.l0]
    simp only [if_pos (show (n : Int) < (xs.length : Int) by omega), if_pos (show (0 : Int) ≤ (n : Int) by omega), beq_self_eq_true, Bool.not_true, Bool.or_self, Bool.false_eq_true, if_false, w64 (show -9223372036854775808 ≤ (n : Int) + 1 by omega) (show (n : Int) + 1 ≤ 9223372036854775807 by omega)]
    exact ih (n + 1) (by omega)
theorem same_self_f (xs : List S26) (hx : xs.length ≤ 9223372036854775806) : Ev (fun k => seineref03_Same.f k xs xs) true := by
  unfold seineref03_Same.f
  simp only [if_true]
  exact same_self xs hx xs.length 0 (by omega)


theorem filt_filt (l : List Int) (xs : List S26) (x y x' y' : Bool) : filt l (filt l xs x y) x' y' = filt l xs (x || x') (y || y') := by
  unfold filt
  rw [List.filter_filter]
  congr 1
  funext p
  rw [may_eq, may_eq, may_eq]
  generalize pieceB l p.f0 p.f1 = a
  generalize freeB l p.f0 p.f1 = b
  generalize wholeB l p.f0 p.f1 = c
  cases x <;> cases y <;> cases x' <;> cases y' <;> cases a <;> cases b <;> cases c <;> rfl

theorem fits_loop (xs : List S26) (n : Int) (hx : xs.length ≤ 100) (hok : ∀ p ∈ xs, 0 ≤ p.f0 ∧ p.f0 ≤ p.f1 ∧ p.f1 ≤ n) (d : Nat) : ∀ i : Nat, i + d = xs.length →
    Ev (fun k => pairs_Fits.l0 k n xs (xs.length : Int) (i : Int)) true := by
  induction d with
  | zero =>
    intro i hi
    refine Ev.succ ?_
    simp only [pairs_Fits.l0]
    simp only [if_neg (show ¬ (i : Int) < (xs.length : Int) by omega)]
    exact Ev.const rfl
  | succ d ih =>
    intro i hi
    have hp := hok xs[i] (List.getElem_mem _)
    refine Ev.succ ?_
    simp only [pairs_Fits.l0]
    simp only [if_pos (show (i : Int) < (xs.length : Int) by omega), if_pos (show (0 : Int) ≤ (i : Int) by omega), rdT_nat xs i (by omega), if_neg (show ¬ xs[i].f0 < 0 by omega), if_neg (show ¬ xs[i].f0 > xs[i].f1 by omega), if_neg (show ¬ xs[i].f1 > n by omega), w64 (show -9223372036854775808 ≤ (i : Int) + 1 by omega) (show (i : Int) + 1 ≤ 9223372036854775807 by omega)]
    exact ih (i + 1) (by omega)

theorem sort_filt (l : List Int) (xs : List S26) (x y : Bool) : sortL (filt l xs x y) = filt l (sortL xs) x y := by
  refine srt_one (sort_srt _) (List.Pairwise.filter _ (sort_srt xs)) (fun p => ?_)
  rw [sort_mem]
  unfold filt
  rw [List.mem_filter, List.mem_filter, sort_mem]

theorem AdmitBoth : Go.Proofs.Ytfcolpemkbpgnaa.StatAdmitBoth.Pure := by
  intro l xs hl _ hb _ _ _
  refine Ev.rounds ?_
  unfold seinelaw22_AdmitBoth.f seinelaw22_awake.f
  simp only [Option.bind_some, if_true]
  have hj : ∀ b : Bool, (b = false → xs.length ≤ 100) → Ev (fun k => seinelaw22_AdmitBoth.j0 k l xs b) true := by
    intro b hbx
    refine Ev.succ ?_
    simp only [seinelaw22_AdmitBoth.j0]
    cases b
    · have hx := hbx rfl
      have hf := fun (x y : Bool) => filt_len l xs x y
      have hlen := fun (x y : Bool) => Nat.le_trans (hf x y) hx
      simp only [Bool.false_eq_true, if_false]
      refine Ev.bind (our_filter_f l xs hx true false) ?_
      refine Ev.bind (our_filter_f l xs hx false true) ?_
      refine Ev.bind (our_filter_f l xs hx true true) ?_
      refine Ev.bind (our_filter_f l xs hx false false) ?_
      refine Ev.bind (our_filter_f l _ (hlen _ _) false true) ?_
      rw [filt_filt]
      refine Ev.bind (same_self_f _ (Nat.le_trans (hlen _ _) (by omega))) ?_
      simp only [if_true]
      refine Ev.bind (our_filter_f l _ (hlen _ _) true false) ?_
      rw [filt_filt]
      refine Ev.bind (same_self_f _ (Nat.le_trans (hlen _ _) (by omega))) ?_
      simp only [if_true]
      refine Ev.bind (our_filter_f l _ (hlen _ _) true true) ?_
      rw [filt_filt]
      refine Ev.bind (same_self_f _ (Nat.le_trans (hlen _ _) (by omega))) ?_
      simp only [if_true]
      refine Ev.bind (our_filter_f l _ (hlen _ _) true true) ?_
      rw [filt_filt]
      refine Ev.bind (same_self_f _ (Nat.le_trans (hlen _ _) (by omega))) ?_
      simp only [if_true]
      have hfit : Ev (fun k => pairs_Fits.f k (filt l xs false false) (l.length : Int)) true := by
        refine fits_loop _ _ (hlen _ _) (fun p hp => ?_) (filt l xs false false).length 0 (by omega)
        have h := (List.mem_filter.mp hp).2
        rw [may_eq] at h
        simpa [pieceB] using h
      refine Ev.bind hfit ?_
      simp only [if_true]
      have h16 := hlen false false
      unfold pairs_Sort.f
      simp only [if_pos (show (filt l xs false false).length * 16 ≤ 140737488355328 by omega), if_pos (show xs.length * 16 ≤ 140737488355328 by omega), Option.bind_some]
      have hsl := sortL_len _ xs rfl
      refine Ev.bind (our_filter_f l (sortL xs) (by omega) false false) ?_
      rw [sort_filt]
      refine Ev.bind (same_self_f _ (Nat.le_trans (filt_len _ _ _ _) (by omega))) ?_
      exact Ev.now true
    · simp only [if_true]
      exact Ev.const rfl
  by_cases h1 : (l.length : Int) > 300
  · simp only [if_pos h1]
    exact hj true (by simp)
  · simp only [if_neg h1]
    exact hj _ (fun h => by simp at h; omega)
end Go.Proofs.Ytfcolpemkbpgnaa.Pure
