/- What the printed functions of chapter 3 come to, in plain words: less, same, rising, fits, all empty pieces. For every list; no condition. -/
import Derived.Test.YtnbncpnmdnhakaaOrdPairsFits
import Derived.Test.YtnbncpnmdnhakaaAid
namespace Go.Proofs.Ytnbncpnmdnhakaa.OrdPairsFits
open Go.RowKit Go.Proofs.Ytnbncpnmdnhakaa.PPairsFits Go.Proofs.YtnbncpnmdnhakaaW.PrintWords Go.Proofs.Ytnbncpnmdnhakaa.Aid

theorem rdP_nat (xs : List PP) (n : Nat) (h : n < xs.length) : rd_T23 xs (n : Int) = xs[n] := by
  unfold rd_T23; rw [Int.toNat_natCast, List.getD_eq_getElem?_getD, List.getElem?_eq_getElem h]; rfl
theorem less_f (a b : PP) : pairs_Less.f a.f0 a.f1 b.f0 b.f1 = some (lessB a b) := by
  unfold pairs_Less.f lessB
  by_cases h : a.f0 = b.f0
  · simp [h]
  · have hb : (a.f0 == b.f0) = false := beq_eq_false_iff_ne.mpr h
    rw [hb]; simp [h]
theorem eq_b (a b : PP) : (!((a.f0) == (b.f0)) || (!((a.f1) == (b.f1)))) = !decide (a = b) := by
  by_cases h : a = b
  · subst h; simp
  · by_cases h0 : a.f0 = b.f0
    · have h1 : ¬ a.f1 = b.f1 := fun h1 => h (pp_ext h0 h1)
      simp [h0, h1, h]
    · simp [h0, h]
theorem same_loop (a b : List PP) (hl : a.length = b.length) (hx : a.length ≤ 9223372036854775806) (d : Nat) : ∀ n : Nat, n + d = a.length → a.take n = b.take n →
    Ev (fun k => seineref03_Same.l0 k a b (n : Int)) (decide (a = b)) := by
  induction d with
  | zero =>
    intro n hn ht
    refine Ev.succ ?_
    simp only [seineref03_Same.l0]
    simp only [if_neg (show ¬ (n : Int) < (a.length : Int) by omega)]
    rw [List.take_of_length_le (by omega), List.take_of_length_le (by omega)] at ht
    exact Ev.const (by rw [decide_eq_true ht])
  | succ d ih =>
    intro n hn ht
    refine Ev.succ ?_
    simp only [seineref03_Same.l0]
    simp only [if_pos (show (n : Int) < (a.length : Int) by omega), if_pos (show (0 : Int) ≤ (n : Int) by omega), if_pos (show (n : Int) < (b.length : Int) by omega), rdP_nat a n (by omega), rdP_nat b n (by omega), eq_b, w64 (show -9223372036854775808 ≤ (n : Int) + 1 by omega) (show (n : Int) + 1 ≤ 9223372036854775807 by omega)]
    by_cases he : a[n] = b[n]
    · simp only [decide_eq_true he, Bool.not_true, Bool.false_eq_true, if_false]
      refine ih (n + 1) (by omega) ?_
      rw [List.take_succ_eq_append_getElem (by omega), List.take_succ_eq_append_getElem (by omega), ht, he]
    · simp only [decide_eq_false he, Bool.not_false, if_true]
      exact Ev.const (by rw [decide_eq_false]; rintro rfl; exact he rfl)
theorem same_f (a b : List PP) (hx : a.length ≤ 9223372036854775806) : Ev (fun k => seineref03_Same.f k a b) (decide (a = b)) := by
  unfold seineref03_Same.f
  by_cases hl : a.length = b.length
  · simp only [if_pos (show (a.length : Int) = (b.length : Int) by omega)]
    exact same_loop a b hl hx a.length 0 (by omega) rfl
  · simp only [if_neg (show ¬ (a.length : Int) = (b.length : Int) by omega)]
    exact Ev.const (by rw [decide_eq_false]; rintro rfl; exact hl rfl)
theorem same_t (a : List PP) (hx : a.length ≤ 9223372036854775806) : Ev (fun k => seineref03_Same.f k a a) true := by
  have := same_f a a hx
  simpa using this

theorem srt_take_succ {l : List PP} {n : Nat} (h1 : 1 ≤ n) (h : n < l.length) (hs : Srt (l.take n)) (hl : lt l[n-1] l[n]) : Srt (l.take (n + 1)) := by
  rw [List.take_succ_eq_append_getElem h]
  refine List.pairwise_append.mpr ⟨hs, List.pairwise_singleton _ _, fun p hp q hq => ?_⟩
  obtain rfl : q = l[n] := by simpa using hq
  obtain ⟨m, rfl⟩ : ∃ m, n = m + 1 := ⟨n - 1, by omega⟩
  rw [List.take_succ_eq_append_getElem (by omega)] at hs hp
  rcases List.mem_append.mp hp with hp' | hp'
  · exact lt_tr ((List.pairwise_append.mp hs).2.2 p hp' l[m] (by simp)) hl
  · obtain rfl : p = l[m] := by simpa using hp'
    exact hl
theorem srt_adj {l : List PP} (hs : Srt l) {n : Nat} (h1 : 1 ≤ n) (h : n < l.length) : lt l[n-1] l[n] :=
  List.pairwise_iff_getElem.mp hs (n - 1) n (by omega) h (by omega)
instance decSrt (l : List PP) : Decidable (Srt l) := by unfold Srt lt; infer_instance
theorem rising_loop (l : List PP) (hx : l.length ≤ 9223372036854775806) (d : Nat) : ∀ n : Nat, 1 ≤ n → n + d = l.length → Srt (l.take n) →
    Ev (fun k => pairs_Rising.l0 k l (n : Int)) (decide (Srt l)) := by
  induction d with
  | zero =>
    intro n h1 hn hs
    refine Ev.succ ?_
    simp only [pairs_Rising.l0]
    simp only [if_neg (show ¬ (n : Int) < (l.length : Int) by omega)]
    rw [List.take_of_length_le (by omega)] at hs
    exact Ev.const (by rw [decide_eq_true hs])
  | succ d ih =>
    intro n h1 hn hs
    refine Ev.succ ?_
    simp only [pairs_Rising.l0]
    have hw : wrap64 ((n : Int) - 1) = ((n - 1 : Nat) : Int) := by rw [w64 (by omega) (by omega)]; omega
    simp only [if_pos (show (n : Int) < (l.length : Int) by omega), hw, if_pos (show (0 : Int) ≤ ((n - 1 : Nat) : Int) by omega), if_pos (show ((n - 1 : Nat) : Int) < (l.length : Int) by omega), if_pos (show (0 : Int) ≤ (n : Int) by omega), rdP_nat l n (by omega), rdP_nat l (n - 1) (by omega), less_f, Option.bind_some, w64 (show -9223372036854775808 ≤ (n : Int) + 1 by omega) (show (n : Int) + 1 ≤ 9223372036854775807 by omega)]
    cases hb : lessB l[n-1] l[n]
    · simp only [Bool.false_eq_true, if_false]
      refine Ev.const ?_
      rw [decide_eq_false]
      intro h
      have := srt_adj h h1 (by omega)
      unfold lt at this
      rw [hb] at this
      cases this
    · simp only [if_true]
      exact ih (n + 1) (by omega) (by omega) (srt_take_succ h1 (by omega) hs hb)
theorem rising_f (l : List PP) (hx : l.length ≤ 9223372036854775806) : Ev (fun k => pairs_Rising.f k l) (decide (Srt l)) := by
  unfold pairs_Rising.f
  rcases Nat.eq_zero_or_pos l.length with h0 | h0
  · obtain rfl := List.length_eq_zero_iff.mp h0
    refine Ev.succ ?_
    simp only [pairs_Rising.l0]
    simp only [List.length_nil, if_neg (show ¬ (1 : Int) < ((0 : Nat) : Int) by omega)]
    exact Ev.const (by rw [decide_eq_true (show Srt [] from List.Pairwise.nil)])
  · refine rising_loop l hx (l.length - 1) 1 (by omega) (by omega) ?_
    match l, h0 with
    | x :: l, _ => simp [Srt]
def Fit (l : List PP) (n : Int) : Prop := ∀ p ∈ l, 0 ≤ p.f0 ∧ p.f0 ≤ p.f1 ∧ p.f1 ≤ n
instance decFit (l : List PP) (n : Int) : Decidable (Fit l n) := by unfold Fit; infer_instance
theorem fits_loop (l : List PP) (n : Int) (hx : l.length ≤ 9223372036854775806) (d : Nat) : ∀ i : Nat, i + d = l.length → Fit (l.take i) n →
    Ev (fun k => pairs_Fits.l0 k n l (l.length : Int) (i : Int)) (decide (Fit l n)) := by
  induction d with
  | zero =>
    intro i hi hf
    refine Ev.succ ?_
    simp only [pairs_Fits.l0]
    simp only [if_neg (show ¬ (i : Int) < (l.length : Int) by omega)]
    rw [List.take_of_length_le (by omega)] at hf
    exact Ev.const (by rw [decide_eq_true hf])
  | succ d ih =>
    intro i hi hf
    have hmem : l[i] ∈ l := List.getElem_mem _
    refine Ev.succ ?_
    simp only [pairs_Fits.l0]
    simp only [if_pos (show (i : Int) < (l.length : Int) by omega), if_pos (show (0 : Int) ≤ (i : Int) by omega), rdP_nat l i (by omega), w64 (show -9223372036854775808 ≤ (i : Int) + 1 by omega) (show (i : Int) + 1 ≤ 9223372036854775807 by omega)]
    have hno : ¬ (0 ≤ l[i].f0 ∧ l[i].f0 ≤ l[i].f1 ∧ l[i].f1 ≤ n) → some false = some (decide (Fit l n)) := fun h => by rw [decide_eq_false]; exact fun hF => h (hF _ hmem)
    by_cases c1 : l[i].f0 < 0
    · simp only [if_pos c1]; exact Ev.const (hno (by omega))
    · simp only [if_neg c1]
      by_cases c2 : l[i].f0 > l[i].f1
      · simp only [if_pos c2]; exact Ev.const (hno (by omega))
      · simp only [if_neg c2]
        by_cases c3 : l[i].f1 > n
        · simp only [if_pos c3]; exact Ev.const (hno (by omega))
        · simp only [if_neg c3]
          refine ih (i + 1) (by omega) ?_
          rw [List.take_succ_eq_append_getElem (by omega)]
          intro p hp
          rcases List.mem_append.mp hp with hp | hp
          · exact hf p hp
          · obtain rfl : p = l[i] := by simpa using hp
            exact ⟨by omega, by omega, by omega⟩
theorem fits_f (l : List PP) (n : Int) (hx : l.length ≤ 9223372036854775806) : Ev (fun k => pairs_Fits.f k l n) (decide (Fit l n)) :=
  fits_loop l n hx l.length 0 (by omega) (by intro p hp; simp at hp)
theorem sort_f (l : List PP) (h : l.length ≤ 1000) : pairs_Sort.f l = some (sortL l) := by unfold pairs_Sort.f; rw [if_pos (by omega)]

/-- the example's lists -/
theorem awake_sort : sortL [(⟨2, 3⟩ : PP), ⟨0, 5⟩, ⟨2, 2⟩, ⟨0, 5⟩] = [⟨0, 5⟩, ⟨2, 2⟩, ⟨2, 3⟩] := by
  refine srt_one (sort_srt _) (by unfold Srt lt; decide) (fun p => ?_)
  rw [sort_mem]
  simp only [List.mem_cons, List.mem_nil_iff, or_false]
  constructor
  · rintro (h | h | h | h) <;> simp [h]
  · rintro (h | h | h) <;> simp [h]
theorem awake_ev : Ev (fun k => seinelaw03_awake.f k) true := by
  refine Ev.of (fun k => seinelaw03_awake.mono k) (k := 8) ?_
  unfold seinelaw03_awake.f
  rw [sort_f _ (by simp), awake_sort]
  decide +kernel
end Go.Proofs.Ytnbncpnmdnhakaa.OrdPairsFits
