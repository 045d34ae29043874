/- AdmitFold: case plays no part in which pieces may be. For every line, list of pairs and options; no condition. -/
import Derived.Test.YtfcolpemkbpgnaaStatAdmitFold
import Derived.Test.YtfcolpemkbpgnaaAid
namespace Go.Proofs.Ytfcolpemkbpgnaa.Pure
open Go.RowKit Go.Proofs.Ytfcolpemkbpgnaa.PAdmitFold Go.Proofs.YtfcolpemkbpgnaaW.PrintWords Go.Proofs.YtfcolpemkbpgnaaW.PrintLast Go.Proofs.Ytfcolpemkbpgnaa.Aid

def upB (c : Int) : Bool := decide (65 ≤ c) && decide (c ≤ 90)
def byteI (c : Int) : Int := if upB c = true then c + 32 else c
theorem str_app (a b : List Int) : strOfNums (a ++ b) = strOfNums a ++ strOfNums b := by
  apply ByteArray.ext
  simp [strOfNums, ByteArray.data_append]
theorem ref_byte (c : Int) (h0 : 0 ≤ c) (h1 : c ≤ 255) : seineref01_Byte.f c = some (byteI c) := by
  unfold seineref01_Byte.f byteI upB
  by_cases h : c ≥ 65
  · by_cases k : c ≤ 90
    · simp [h, k]; omega
    · simp [h, k]
  · simp [h]
theorem byteI_byt (c : Int) (h0 : 0 ≤ c) (h1 : c ≤ 255) : 0 ≤ byteI c ∧ byteI c ≤ 255 := by
  unfold byteI upB
  split
  · rename_i h; simp at h; omega
  · omega
theorem ref_loop (l : List Int) (hl : l.length ≤ 1000) (hb : Byt l) (d : Nat) : ∀ n : Nat, n + d = l.length →
    Ev (fun k => seineref01_Bytes.l0 k (strOfNums l) (strOfNums ((l.take n).map byteI)) (n : Int)) (strOfNums (l.map byteI)) := by
  have hs := size_str l
  induction d with
  | zero =>
    intro n hn
    refine Ev.succ ?_
    simp only [seineref01_Bytes.l0]
    simp only [if_neg (show ¬ (n : Int) < ((strOfNums l).size : Int) by omega)]
    exact Ev.const (by rw [List.take_of_length_le (by omega)])
  | succ d ih =>
    intro n hn
    have hbt : bt (strOfNums l) (n : Int) = l[n] := by rw [bt_str hb (by omega) (by omega), rd_nat l n (by omega)]
    have hr := hb l[n] (List.getElem_mem (by omega))
    have hsz := size_str ((l.take n).map byteI)
    rw [List.length_map, List.length_take] at hsz
    have := ih (n + 1) (by omega)
    rw [List.take_succ_eq_append_getElem (by omega), List.map_append, str_app] at this
    refine Ev.succ ?_
    simp only [seineref01_Bytes.l0]
    simp only [if_pos (show (n : Int) < ((strOfNums l).size : Int) by omega), if_pos (show (0 : Int) ≤ (n : Int) by omega), hbt, ref_byte l[n] hr.1 hr.2, Option.bind_some, if_pos (show (strOfNums ((l.take n).map byteI)).size + (strOfNums [byteI l[n]]).size ≤ 9223372036854775807 by rw [size_str [byteI l[n]]]; simp only [List.length_cons, List.length_nil]; omega), w64 (show -9223372036854775808 ≤ (n : Int) + 1 by omega) (show (n : Int) + 1 ≤ 9223372036854775807 by omega)]
    exact this
theorem ref_bytes (l : List Int) (hl : l.length ≤ 1000) (hb : Byt l) : Ev (fun k => seineref01_Bytes.f k (strOfNums l)) (strOfNums (l.map byteI)) :=
  ref_loop l hl hb l.length 0 (by omega)
theorem may_eq (l : List Int) (s e : Int) (x y : Bool) : mayB l s e x y = (pieceB l s e && ((!x || freeB l s e) && (!y || wholeB l s e))) := by
  unfold mayB mustFns
  cases x <;> cases y <;> simp [mustB]

/-- the pairs of a line that may be -/
def filt (l : List Int) (xs : List S26) (x y : Bool) : List S26 := xs.filter fun p => mayB l p.f0 p.f1 x y
theorem filt_snoc (l : List Int) (xs : List S26) (p : S26) (x y : Bool) : filt l (xs ++ [p]) x y = if mayB l p.f0 p.f1 x y = true then filt l xs x y ++ [p] else filt l xs x y := by
  unfold filt; rw [List.filter_append]; split <;> simp_all
theorem filt_len (l : List Int) (xs : List S26) (x y : Bool) : (filt l xs x y).length ≤ xs.length := List.length_filter_le _ _
theorem rdT_nat (xs : List S26) (n : Nat) (h : n < xs.length) : rd_T26 xs (n : Int) = xs[n] := by
  unfold rd_T26; rw [Int.toNat_natCast, List.getD_eq_getElem?_getD, List.getElem?_eq_getElem h]; rfl
theorem take_snoc' (xs : List S26) (n : Nat) (h : n < xs.length) : xs.take (n + 1) = xs.take n ++ [xs[n]] := List.take_succ_eq_append_getElem h

theorem our_filter (l : List Int) (xs : List S26) (hx : xs.length ≤ 100) (x y : Bool) (d : Nat) : ∀ n : Nat, n + d = xs.length →
    Ev (fun k => admit_Filter.l0 k l x y (filt l (xs.take n) x y) xs (xs.length : Int) (n : Int)) (filt l xs x y) := by
  induction d with
  | zero =>
    intro n hn
    refine Ev.succ ?_
    simp only [admit_Filter.l0]
    simp only [if_neg (show ¬ (n : Int) < (xs.length : Int) by omega)]
    exact Ev.const (by rw [List.take_of_length_le (by omega)])
  | succ d ih =>
    intro n hn
    have hl := filt_len l (xs.take n) x y
    have hl2 : (xs.take n).length ≤ 100 := by rw [List.length_take]; omega
    have hs := filt_snoc l (xs.take n) xs[n] x y
    rw [← take_snoc' xs n (by omega)] at hs
    have ih' := ih (n + 1) (by omega)
    refine Ev.succ ?_
    simp only [admit_Filter.l0]
    simp only [if_pos (show (n : Int) < (xs.length : Int) by omega), if_pos (show (0 : Int) ≤ (n : Int) by omega), rdT_nat xs n (by omega), admit_May.f, Option.bind_some, w64 (show -9223372036854775808 ≤ (n : Int) + 1 by omega) (show (n : Int) + 1 ≤ 9223372036854775807 by omega)]
    rw [hs] at ih'
    cases hm : mayB l xs[n].f0 xs[n].f1 x y
    · rw [hm] at ih'
      simp only [Bool.false_eq_true, if_false] at ih' ⊢
      exact ih'
    · rw [hm] at ih'
      simp only [if_true, if_pos (show (filt l (xs.take n) x y).length < 8796093022208 by omega)] at ih' ⊢
      exact ih'
theorem our_filter_f (l : List Int) (xs : List S26) (hx : xs.length ≤ 100) (x y : Bool) : Ev (fun k => admit_Filter.f k l xs x y) (filt l xs x y) :=
  our_filter l xs hx x y xs.length 0 (by omega)

theorem same_self (xs : List S26) (hx : xs.length ≤ 9223372036854775806) (d : Nat) : ∀ n : Nat, n + d = xs.length → Ev (fun k => seineref03_Same.l0 k xs xs (n : Int)) true := by
  induction d with
  | zero =>
    intro n hn
    refine Ev.succ ?_
    simp only [seineref03_Same.l0]
    simp only [if_neg (show ¬ (n : Int) < (xs.length : Int) by omega)]
    exact Ev.const rfl
  | succ d ih =>
    intro n hn
    refine Ev.succ ?_
    simp only [seineref03_Same.l0]
    simp only [if_pos (show (n : Int) < (xs.length : Int) by omega), if_pos (show (0 : Int) ≤ (n : Int) by omega), beq_self_eq_true, Bool.not_true, Bool.or_self, Bool.false_eq_true, if_false, w64 (show -9223372036854775808 ≤ (n : Int) + 1 by omega) (show (n : Int) + 1 ≤ 9223372036854775807 by omega)]
    exact ih (n + 1) (by omega)
theorem same_self_f (xs : List S26) (hx : xs.length ≤ 9223372036854775806) : Ev (fun k => seineref03_Same.f k xs xs) true := by
  unfold seineref03_Same.f
  simp only [if_true]
  exact same_self xs hx xs.length 0 (by omega)


theorem nums_str (m : List Int) (hb : Byt m) : numsB (strOfNums m) = m := by
  have e : numsB (strOfNums m) = m.map (fun n => ((UInt8.ofNat n.toNat).toNat : Int)) := by simp [numsB, strOfNums]
  rw [e]
  conv => rhs; rw [← List.map_id m]
  refine List.map_congr_left (fun n hn => ?_)
  have := hb n hn
  simp
  omega
theorem word_byte (c : Int) (h0 : 0 ≤ c) (h1 : c ≤ 255) : isWord (byteI c) = isWord c := by
  unfold isWord fold_Word.f fold_Byte.f byteI upB
  by_cases a1 : 65 ≤ c
  · by_cases a2 : c ≤ 90
    · have e : ((c + 97) % 256 - 65) % 256 = c + 32 := by omega
      rw [decide_eq_true a1, decide_eq_true a2]
      simp only [Bool.and_self, if_true, if_pos (show 65 ≤ c + 32 by omega), if_neg (show ¬ c + 32 ≤ 90 by omega), if_pos a1, if_pos a2, e]
    · rw [decide_eq_false a2, Bool.and_false]
      simp
  · rw [decide_eq_false a1, Bool.false_and]
    simp
theorem rd_map (l : List Int) (i : Int) (h0 : 0 ≤ i) (h1 : i < (l.length : Int)) : rd (l.map byteI) i = byteI (rd l i) := by
  obtain ⟨n, rfl⟩ := Int.eq_ofNat_of_zero_le h0
  rw [rd_nat _ n (by simp; omega), rd_nat l n (by omega)]
  simp
theorem wordAt_map (l : List Int) (hb : Byt l) (i : Int) : wordAt (l.map byteI) i = wordAt l i := by
  unfold wordAt
  rw [List.length_map]
  by_cases h0 : 0 ≤ i
  · by_cases h1 : i < (l.length : Int)
    · have h2 := byt_rd hb h0 h1
      rw [rd_map l i h0 h1, word_byte _ h2.1 h2.2]
    · simp [h1]
  · simp [h0]
theorem may_map (l : List Int) (hb : Byt l) (s e : Int) (x y : Bool) : mayB (l.map byteI) s e x y = mayB l s e x y := by
  rw [may_eq, may_eq]
  unfold pieceB freeB wholeB
  rw [List.length_map, wordAt_map l hb, wordAt_map l hb]
theorem filt_map (l : List Int) (hb : Byt l) (xs : List S26) (x y : Bool) : filt (l.map byteI) xs x y = filt l xs x y := by
  unfold filt
  refine List.filter_congr (fun p _ => ?_)
  exact may_map l hb p.f0 p.f1 x y
theorem AdmitFold : Go.Proofs.Ytfcolpemkbpgnaa.StatAdmitFold.Pure := by
  intro l xs x y _ _ hw _ _ _
  have hb := byt_of hw
  refine Ev.rounds (g := fun k => _) (r := true) ?_
  unfold seinelaw22_AdmitFold.f
  by_cases h1 : (l.length : Int) > 300
  · simp only [if_pos h1]; exact Ev.const rfl
  by_cases h2 : (xs.length : Int) > 100
  · simp only [if_neg h1, if_pos h2]; exact Ev.const rfl
  simp only [if_neg h1, if_neg h2]
  have hb' : Byt (l.map byteI) := by
    intro c hc
    obtain ⟨d, hd, rfl⟩ := List.mem_map.mp hc
    exact byteI_byt d (hb d hd).1 (hb d hd).2
  have hz := size_str (l.map byteI)
  rw [List.length_map] at hz
  have hf := our_filter_f (l.map byteI) xs (by omega) x y
  rw [filt_map l hb] at hf
  refine Ev.bind (ref_bytes l (by omega) hb) ?_
  simp only [if_pos (show (strOfNums (l.map byteI)).size ≤ 1000 by omega), nums_str _ hb']
  refine Ev.bind (our_filter_f l xs (by omega) x y) ?_
  refine Ev.bind hf ?_
  have := filt_len l xs x y
  exact same_self_f _ (by omega)

end Go.Proofs.Ytfcolpemkbpgnaa.Pure
