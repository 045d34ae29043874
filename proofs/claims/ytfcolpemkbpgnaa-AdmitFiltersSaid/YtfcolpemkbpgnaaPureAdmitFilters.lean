/- AdmitFilters: which of any pairs may be, of any line, with whole words, whole lines, both or neither, and whether one may, are the document's. For every line, list of pairs and options; no condition. -/
import Derived.Test.YtfcolpemkbpgnaaStatAdmitFilters
import Derived.Test.YtfcolpemkbpgnaaAid
namespace Go.Proofs.Ytfcolpemkbpgnaa.Pure
open Go.RowKit Go.Proofs.Ytfcolpemkbpgnaa.PAdmitFilters Go.Proofs.YtfcolpemkbpgnaaW.PrintWords Go.Proofs.YtfcolpemkbpgnaaW.PrintLast Go.Proofs.Ytfcolpemkbpgnaa.Aid

theorem word_ref (c : Int) (h0 : 0 ≤ c) (h1 : c ≤ 255) : seineref01_Word.f c = some (isWord c) := by
  rw [← fold_Word_some c]
  unfold seineref01_Word.f fold_Word.f fold_Byte.f
  by_cases a1 : 65 ≤ c
  · by_cases a2 : c ≤ 90
    · have e : ((c + 97) % 256 - 65) % 256 = c + 32 := by omega
      rw [if_pos (by omega), if_pos a2, if_pos a1, if_pos a2, e, Option.bind_some, if_pos (by omega), if_pos (by omega)]
    · rw [if_pos (by omega), if_neg a2, if_pos a1, if_neg a2, Option.bind_some]
  · rw [if_neg (by omega), if_neg a1, Option.bind_some]

theorem wordAt_in (l : List Int) (i : Int) (h0 : 0 ≤ i) (h1 : i < (l.length : Int)) : wordAt l i = isWord (rd l i) := by simp [wordAt, h0, h1]
theorem wordAt_end (l : List Int) (i : Int) (h1 : (l.length : Int) ≤ i) : wordAt l i = false := by
  have : ¬ i < (l.length : Int) := by omega
  simp [wordAt, this]
theorem wordAt_neg (l : List Int) (i : Int) (h1 : i < 0) : wordAt l i = false := by
  have : ¬ 0 ≤ i := by omega
  simp [wordAt, this]

theorem ref_piece (l : List Int) (s e : Int) : seineref22_Piece.f (strOfNums l) s e = some (pieceB l s e) := by
  unfold seineref22_Piece.f pieceB
  rw [size_str]
  by_cases h1 : 0 ≤ s <;> by_cases h2 : s ≤ e <;> simp [h1, h2]

theorem ref_free (l : List Int) (hb : Byt l) (hl : (l.length : Int) ≤ 9223372036854775807) (s e : Int) : Ev (fun k => seineref22_Free.f k (strOfNums l) s e) (freeB l s e) := by
  unfold seineref22_Free.f
  simp only [ref_piece, Option.bind_some]
  have hj : ∀ b : Bool, b = (!(pieceB l s e) || (s == e)) → Ev (fun k => seineref22_Free.j0 k (strOfNums l) b s e) (freeB l s e) := by
    intro b hbe
    refine Ev.succ ?_
    simp only [seineref22_Free.j0]
    by_cases hp : pieceB l s e = true
    · by_cases he : s = e
      · have : b = true := by rw [hbe]; simp [he]
        subst this
        simp only [if_true]
        exact Ev.const (by unfold freeB; simp [he])
      · have : b = false := by rw [hbe]; simp [he, hp]
        subst this
        have hp' : 0 ≤ s ∧ s ≤ e ∧ e ≤ (l.length : Int) := by simpa [pieceB] using hp
        obtain ⟨p1, p2, p3⟩ := hp'
        have hf : freeB l s e = (!(wordAt l (wrap64 (s - 1))) && !(wordAt l e)) := by
          unfold freeB
          rw [show (decide (0 ≤ s) && (decide (s ≤ e) && decide (e ≤ (l.length : Int)))) = true from hp, beq_eq_false_iff_ne.mpr he]
          simp
        rw [hf, w64 (by omega) (by omega)]
        simp only [Bool.false_eq_true, if_false, size_str]
        have htail : Ev (fun _ : Nat => if e = (l.length : Int) then some true else if 0 ≤ e then (if e < (l.length : Int) then ((seineref01_Word.f (bt (strOfNums l) e)).bind fun t => some (!t)) else none) else none) (!(wordAt l e)) := by
          refine Ev.const ?_
          by_cases h5 : e = (l.length : Int)
          · rw [if_pos h5, wordAt_end l e (by omega)]; rfl
          · rw [if_neg h5, if_pos (by omega), if_pos (by omega), bt_str hb (by omega) (by omega), word_ref _ (byt_rd hb (by omega) (by omega)).1 (byt_rd hb (by omega) (by omega)).2, wordAt_in l e (by omega) (by omega)]; rfl
        by_cases h4 : s > 0
        · simp only [if_pos h4]
          rw [wordAt_in l (s - 1) (by omega) (by omega)]
          simp only [if_pos (show 0 ≤ s - 1 by omega), if_pos (show s - 1 < (l.length : Int) by omega), bt_str hb (show 0 ≤ s - 1 by omega) (show s - 1 < (l.length : Int) by omega), word_ref _ (byt_rd hb (show 0 ≤ s - 1 by omega) (show s - 1 < (l.length : Int) by omega)).1 (byt_rd hb (show 0 ≤ s - 1 by omega) (show s - 1 < (l.length : Int) by omega)).2, Option.bind_some]
          cases isWord (rd l (s - 1))
          · simpa using htail
          · simp only [if_true]; exact Ev.const (by simp)
        · simp only [if_neg h4]
          rw [wordAt_neg l (s - 1) (by omega)]
          simpa using htail
    · have hpf : pieceB l s e = false := by simpa using hp
      have : b = true := by rw [hbe, hpf]; rfl
      subst this
      simp only [if_true]
      refine Ev.const ?_
      unfold freeB
      rw [show (decide (0 ≤ s) && (decide (s ≤ e) && decide (e ≤ (l.length : Int)))) = false from hpf]
      rfl
  cases hp : pieceB l s e
  · simp only [Bool.false_eq_true, if_false]
    exact hj true (by rw [hp]; rfl)
  · simp only [if_true]
    exact hj _ (by rw [hp]; rfl)

theorem may_eq (l : List Int) (s e : Int) (x y : Bool) : mayB l s e x y = (pieceB l s e && ((!x || freeB l s e) && (!y || wholeB l s e))) := by
  unfold mayB mustFns
  cases x <;> cases y <;> simp [mustB]

theorem ref_may (l : List Int) (hb : Byt l) (hl : (l.length : Int) ≤ 9223372036854775807) (s e : Int) (x y : Bool) : Ev (fun k => seineref22_May.f k (strOfNums l) s e x y) (mayB l s e x y) := by
  unfold seineref22_May.f
  have hj : ∀ b : Bool, b = (x && !(freeB l s e)) → Ev (fun k => seineref22_May.j0 k (strOfNums l) y b s e) (mayB l s e x y) := by
    intro b hbe
    refine Ev.succ ?_
    simp only [seineref22_May.j0, ref_piece, Option.bind_some, size_str]
    refine Ev.const ?_
    rw [may_eq]
    unfold wholeB
    subst hbe
    cases x <;> cases y <;> cases freeB l s e <;> simp <;> (by_cases h1 : s = 0 <;> by_cases h2 : e = (l.length : Int) <;> simp [h1, h2])
  cases x
  · simp only [Bool.false_eq_true, if_false]
    exact hj false rfl
  · simp only [if_true]
    refine Ev.bind (ref_free l hb hl s e) ?_
    exact hj _ (by simp)

/-- the pairs of a line that may be -/
def filt (l : List Int) (xs : List S26) (x y : Bool) : List S26 := xs.filter fun p => mayB l p.f0 p.f1 x y
theorem filt_snoc (l : List Int) (xs : List S26) (p : S26) (x y : Bool) : filt l (xs ++ [p]) x y = if mayB l p.f0 p.f1 x y = true then filt l xs x y ++ [p] else filt l xs x y := by
  unfold filt; rw [List.filter_append]; split <;> simp_all
theorem filt_len (l : List Int) (xs : List S26) (x y : Bool) : (filt l xs x y).length ≤ xs.length := List.length_filter_le _ _
theorem rdT_nat (xs : List S26) (n : Nat) (h : n < xs.length) : rd_T26 xs (n : Int) = xs[n] := by
  unfold rd_T26; rw [Int.toNat_natCast, List.getD_eq_getElem?_getD, List.getElem?_eq_getElem h]; rfl
theorem take_snoc' (xs : List S26) (n : Nat) (h : n < xs.length) : xs.take (n + 1) = xs.take n ++ [xs[n]] := List.take_succ_eq_append_getElem h

theorem our_filter (l : List Int) (xs : List S26) (hx : xs.length ≤ 100) (x y : Bool) (d : Nat) : ∀ n : Nat, n + d = xs.length →
    Ev (fun k => admit_Filter.l0 k l x y (filt l (xs.take n) x y) xs (xs.length : Int) (n : Int)) (filt l xs x y) := by
  induction d with
  | zero =>
    intro n hn
    refine Ev.succ ?_
    simp only [admit_Filter.l0]
    simp only [if_neg (show ¬ (n : Int) < (xs.length : Int) by omega)]
    exact Ev.const (by rw [List.take_of_length_le (by omega)])
  | succ d ih =>
    intro n hn
    have hl := filt_len l (xs.take n) x y
    have hl2 : (xs.take n).length ≤ 100 := by rw [List.length_take]; omega
    have hs := filt_snoc l (xs.take n) xs[n] x y
    rw [← take_snoc' xs n (by omega)] at hs
    have ih' := ih (n + 1) (by omega)
    refine Ev.succ ?_
    simp only [admit_Filter.l0]
    simp only [if_pos (show (n : Int) < (xs.length : Int) by omega), if_pos (show (0 : Int) ≤ (n : Int) by omega), rdT_nat xs n (by omega), admit_May.f, Option.bind_some, w64 (show -9223372036854775808 ≤ (n : Int) + 1 by omega) (show (n : Int) + 1 ≤ 9223372036854775807 by omega)]
    rw [hs] at ih'
    cases hm : mayB l xs[n].f0 xs[n].f1 x y
    · rw [hm] at ih'
      simp only [Bool.false_eq_true, if_false] at ih' ⊢
      exact ih'
    · rw [hm] at ih'
      simp only [if_true, if_pos (show (filt l (xs.take n) x y).length < 8796093022208 by omega)] at ih' ⊢
      exact ih'
theorem our_filter_f (l : List Int) (xs : List S26) (hx : xs.length ≤ 100) (x y : Bool) : Ev (fun k => admit_Filter.f k l xs x y) (filt l xs x y) :=
  our_filter l xs hx x y xs.length 0 (by omega)

theorem ref_filter (l : List Int) (hb : Byt l) (hl : (l.length : Int) ≤ 9223372036854775807) (xs : List S26) (hx : xs.length ≤ 100) (x y : Bool) (d : Nat) : ∀ n : Nat, n + d = xs.length →
    Ev (fun k => seineref22_Filter.l0 k (strOfNums l) xs x y (filt l (xs.take n) x y) (n : Int)) (filt l xs x y) := by
  induction d with
  | zero =>
    intro n hn
    refine Ev.succ ?_
    simp only [seineref22_Filter.l0]
    simp only [if_neg (show ¬ (n : Int) < (xs.length : Int) by omega)]
    exact Ev.const (by rw [List.take_of_length_le (by omega)])
  | succ d ih =>
    intro n hn
    have hl' := filt_len l (xs.take n) x y
    have hl2 : (xs.take n).length ≤ 100 := by rw [List.length_take]; omega
    have hs := filt_snoc l (xs.take n) xs[n] x y
    rw [← take_snoc' xs n (by omega)] at hs
    have ih' := ih (n + 1) (by omega)
    refine Ev.succ ?_
    simp only [seineref22_Filter.l0]
    simp only [if_pos (show (n : Int) < (xs.length : Int) by omega), if_pos (show (0 : Int) ≤ (n : Int) by omega), rdT_nat xs n (by omega), w64 (show -9223372036854775808 ≤ (n : Int) + 1 by omega) (show (n : Int) + 1 ≤ 9223372036854775807 by omega)]
    refine Ev.bind (ref_may l hb hl _ _ x y) ?_
    rw [hs] at ih'
    cases hm : mayB l xs[n].f0 xs[n].f1 x y
    · rw [hm] at ih'
      simp only [Bool.false_eq_true, if_false] at ih' ⊢
      exact ih'
    · rw [hm] at ih'
      simp only [if_true, if_pos (show (filt l (xs.take n) x y).length < 8796093022208 by omega)] at ih' ⊢
      exact ih'
theorem ref_filter_f (l : List Int) (hb : Byt l) (hl : (l.length : Int) ≤ 9223372036854775807) (xs : List S26) (hx : xs.length ≤ 100) (x y : Bool) : Ev (fun k => seineref22_Filter.f k (strOfNums l) xs x y) (filt l xs x y) :=
  ref_filter l hb hl xs hx x y xs.length 0 (by omega)

theorem same_self (xs : List S26) (hx : xs.length ≤ 9223372036854775806) (d : Nat) : ∀ n : Nat, n + d = xs.length → Ev (fun k => seineref03_Same.l0 k xs xs (n : Int)) true := by
  induction d with
  | zero =>
    intro n hn
    refine Ev.succ ?_
    simp only [seineref03_Same.l0]
    simp only [if_neg (show ¬ (n : Int) < (xs.length : Int) by omega)]
    exact Ev.const rfl
  | succ d ih =>
    intro n hn
    refine Ev.succ ?_
    simp only [seineref03_Same.l0]
    simp only [if_pos (show (n : Int) < (xs.length : Int) by omega), if_pos (show (0 : Int) ≤ (n : Int) by omega), beq_self_eq_true, Bool.not_true, Bool.or_self, Bool.false_eq_true, if_false, w64 (show -9223372036854775808 ≤ (n : Int) + 1 by omega) (show (n : Int) + 1 ≤ 9223372036854775807 by omega)]
    exact ih (n + 1) (by omega)
theorem same_self_f (xs : List S26) (hx : xs.length ≤ 9223372036854775806) : Ev (fun k => seineref03_Same.f k xs xs) true := by
  unfold seineref03_Same.f
  simp only [if_true]
  exact same_self xs hx xs.length 0 (by omega)

theorem law_loop (l : List Int) (hb : Byt l) (hl : (l.length : Int) ≤ 9223372036854775807) (xs : List S26) (hx : xs.length ≤ 100) (x y : Bool) (d : Nat) : ∀ n : Nat, n + d = xs.length →
    Ev (fun k => seinelaw22_AdmitFilters.l0 k l xs x y (n : Int)) true := by
  induction d with
  | zero =>
    intro n hn
    refine Ev.succ ?_
    simp only [seinelaw22_AdmitFilters.l0]
    simp only [if_neg (show ¬ (n : Int) < (xs.length : Int) by omega)]
    exact Ev.const rfl
  | succ d ih =>
    intro n hn
    refine Ev.succ ?_
    simp only [seinelaw22_AdmitFilters.l0]
    simp only [if_pos (show (n : Int) < (xs.length : Int) by omega), if_pos (show (0 : Int) ≤ (n : Int) by omega), rdT_nat xs n (by omega), admit_Free.f, admit_May.f, Option.bind_some, w64 (show -9223372036854775808 ≤ (n : Int) + 1 by omega) (show (n : Int) + 1 ≤ 9223372036854775807 by omega)]
    refine Ev.bind (ref_free l hb hl _ _) ?_
    simp only [bne_self_eq_false, Bool.false_eq_true, if_false]
    refine Ev.bind (ref_may l hb hl _ _ x y) ?_
    simp only [bne_self_eq_false, Bool.false_eq_true, if_false]
    exact ih (n + 1) (by omega)

theorem AdmitFilters : Go.Proofs.Ytfcolpemkbpgnaa.StatAdmitFilters.Pure := by
  intro l xs x y hl _ hb _ _ _
  have hb := byt_of hb
  have hl : (l.length : Int) ≤ 9223372036854775807 := by unfold maxLen at hl; omega
  refine Ev.rounds ?_
  unfold seinelaw22_AdmitFilters.f seinelaw22_awake.f
  simp only [Option.bind_some, if_true]
  have hj : ∀ b : Bool, (b = false → xs.length ≤ 100) → Ev (fun k => seinelaw22_AdmitFilters.j0 k l xs x y b) true := by
    intro b hbx
    refine Ev.succ ?_
    simp only [seinelaw22_AdmitFilters.j0]
    cases b
    · have hx := hbx rfl
      have hlen := filt_len l xs x y
      simp only [Bool.false_eq_true, if_false]
      refine Ev.bind (ref_filter_f l hb hl xs hx x y) ?_
      refine Ev.bind (our_filter_f l xs hx x y) ?_
      refine Ev.bind (same_self_f _ (by omega)) ?_
      simp only [if_true, admit_Any.f]
      refine Ev.bind (Ev.bind (our_filter_f l xs hx x y) (Ev.now _)) ?_
      refine Ev.succ ?_
      simp only [seinelaw22_AdmitFilters.j1, bne_self_eq_false, Bool.false_eq_true, if_false]
      exact law_loop l hb hl xs hx x y xs.length 0 (by omega)
    · simp only [if_true]
      exact Ev.const rfl
  by_cases h1 : (l.length : Int) > 300
  · simp only [if_pos h1]
    exact hj true (by simp)
  · simp only [if_neg h1]
    exact hj _ (fun h => by simp at h; omega)
end Go.Proofs.Ytfcolpemkbpgnaa.Pure
