/- LinesSplit: any text's lines, how many, and how many bytes are no newlines, are the document's. For every list of bytes; no condition. -/
import Derived.Test.YtccpobbebfgpbaaLnsLinesSplit
namespace Go.Proofs.Ytccpobbebfgpbaa.Pure
open Go.RowKit Go.Proofs.Ytccpobbebfgpbaa.PLinesSplit Go.Proofs.YtccpobbebfgpbaaW.PrintWords Go.Proofs.YtccpobbebfgpbaaW.PrintLast Go.Proofs.Ytccpobbebfgpbaa.Aid Go.Proofs.Ytccpobbebfgpbaa.LnsLinesSplit

theorem str_cut (l : List Int) (a b : Nat) : (strOfNums l).extract a b = strOfNums ((l.take b).drop a) := by
  apply ByteArray.ext
  simp [strOfNums, List.drop_take]
def conv (x : S31) : S33 := ⟨x.f0, strOfNums x.f1, x.f2⟩
theorem ref_loop (t : List Int) (ht : t.length ≤ 1000) (hb : Byt t) (d : Nat) : ∀ (n s : Nat) (out : List S33), n + d = t.length → s ≤ n → out.length ≤ n →
    Ev (fun k => seineref02_Split.l0 k (strOfNums t) out (s : Int) (n : Int)) (out ++ (linesUp (t.drop n) (s : Int) ((t.take n).drop s)).map conv) := by
  have hs := size_str t
  induction d with
  | zero =>
    intro n s out hn hsn ho
    refine Ev.succ ?_
    simp only [seineref02_Split.l0, if_neg (show ¬ (n : Int) < ((strOfNums t).size : Int) by omega)]
    rw [List.drop_of_length_le (show t.length ≤ n by omega)]
    by_cases h : s < t.length
    · simp only [if_pos (show (s : Int) < ((strOfNums t).size : Int) by omega), if_pos (show (0 : Int) ≤ (s : Int) by omega), if_pos (show (s : Int) ≤ ((strOfNums t).size : Int) by omega), if_pos (show out.length < 4398046511104 by omega), str_cut, Int.toNat_natCast]
      have hne : (t.take n).drop s ≠ [] := by
        intro e
        have := congrArg List.length e
        simp at this
        omega
      refine Ev.const ?_
      unfold linesUp
      rw [if_neg hne, show n = (strOfNums t).size by omega]
      rfl
    · simp only [if_neg (show ¬ (s : Int) < ((strOfNums t).size : Int) by omega)]
      have he : (t.take n).drop s = [] := List.drop_of_length_le (by simp; omega)
      rw [he]
      exact Ev.const (by simp [linesUp])
  | succ d ih =>
    intro n s out hn hsn ho
    have hbt : bt (strOfNums t) (n : Int) = t[n] := by rw [bt_str hb (by omega) (by omega), rd_nat t n (by omega)]
    rw [List.drop_eq_getElem_cons (show n < t.length by omega), linesUp_cons]
    refine Ev.succ ?_
    simp only [seineref02_Split.l0, if_pos (show (n : Int) < ((strOfNums t).size : Int) by omega), if_pos (show (0 : Int) ≤ (n : Int) by omega), hbt, w64 (show -9223372036854775808 ≤ (n : Int) + 1 by omega) (show (n : Int) + 1 ≤ 9223372036854775807 by omega)]
    by_cases e : t[n] = 10
    · have := ih (n + 1) (n + 1) (out ++ [⟨(s : Int), strOfNums ((t.take n).drop s), true⟩]) (by omega) (by omega) (by simp; omega)
      simp only [if_pos e, if_pos (show (0 : Int) ≤ (s : Int) by omega), if_pos (show (s : Int) ≤ (n : Int) by omega), if_pos (show (n : Int) ≤ ((strOfNums t).size : Int) by omega), if_pos (show out.length < 4398046511104 by omega), str_cut, Int.toNat_natCast]
      have hl : ((t.take n).drop s).length = n - s := by simp; omega
      rw [hl, show (s : Int) + ((n - s : Nat) : Int) + 1 = ((n + 1 : Nat) : Int) by omega, List.map_cons]
      rw [List.drop_of_length_le (show (t.take (n + 1)).length ≤ n + 1 by simp; omega), List.append_assoc] at this
      exact this
    · have := ih (n + 1) s out (by omega) (by omega) (by omega)
      simp only [if_neg e]
      rw [List.take_succ_eq_append_getElem (show n < t.length by omega), List.drop_append_of_le_length (by simp; omega)] at this
      exact this
theorem ref_split (t : List Int) (ht : t.length ≤ 1000) (hb : Byt t) : Ev (fun k => seineref02_Split.f k (strOfNums t)) ((linesUp t 0 []).map conv) := by
  have := ref_loop t ht hb t.length 0 0 [] (by omega) (by omega) (by simp)
  exact this
theorem ref_bare (t : List Int) (ht : t.length ≤ 1000) (hb : Byt t) (d : Nat) : ∀ (n m : Nat), n + d = t.length → m ≤ n →
    Ev (fun k => seineref02_Bare.l0 k (strOfNums t) (m : Int) (n : Int)) ((m + bareN (t.drop n) : Nat) : Int) := by
  have hs := size_str t
  induction d with
  | zero =>
    intro n m hn hm
    refine Ev.succ ?_
    simp only [seineref02_Bare.l0, if_neg (show ¬ (n : Int) < ((strOfNums t).size : Int) by omega)]
    exact Ev.const (by rw [List.drop_of_length_le (by omega)]; rfl)
  | succ d ih =>
    intro n m hn hm
    have hbt : bt (strOfNums t) (n : Int) = t[n] := by rw [bt_str hb (by omega) (by omega), rd_nat t n (by omega)]
    refine Ev.succ ?_
    simp only [seineref02_Bare.l0, if_pos (show (n : Int) < ((strOfNums t).size : Int) by omega), if_pos (show (0 : Int) ≤ (n : Int) by omega), hbt, w64 (show -9223372036854775808 ≤ (n : Int) + 1 by omega) (show (n : Int) + 1 ≤ 9223372036854775807 by omega), w64 (show -9223372036854775808 ≤ (m : Int) + 1 by omega) (show (m : Int) + 1 ≤ 9223372036854775807 by omega)]
    have e : bareN (t.drop n) = if t[n] = 10 then bareN (t.drop (n + 1)) else bareN (t.drop (n + 1)) + 1 := by
      rw [List.drop_eq_getElem_cons (show n < t.length by omega)]; rfl
    by_cases h : t[n] = 10
    · rw [e, if_pos h]
      simp only [if_pos h]
      exact ih (n + 1) m (by omega) (by omega)
    · rw [e, if_neg h]
      simp only [if_neg h]
      have := ih (n + 1) (m + 1) (by omega) (by omega)
      rw [show m + (bareN (t.drop (n + 1)) + 1) = m + 1 + bareN (t.drop (n + 1)) by omega]
      exact this
theorem same_loop (xs : List S31) (hx : xs.length ≤ 100000) (d : Nat) : ∀ n : Nat, n + d = xs.length → Ev (fun k => seinelaw02_LinesSplit.l0 k xs (xs.map conv) (n : Int)) true := by
  induction d with
  | zero =>
    intro n hn
    refine Ev.succ ?_
    simp only [seinelaw02_LinesSplit.l0, if_neg (show ¬ (n : Int) < (xs.length : Int) by omega)]
    exact Ev.const rfl
  | succ d ih =>
    intro n hn
    have hr : rd_T33 (xs.map conv) (n : Int) = conv xs[n] := by
      unfold rd_T33; rw [Int.toNat_natCast, List.getD_eq_getElem?_getD, List.getElem?_eq_getElem (show n < (xs.map conv).length by simp; omega)]; simp
    refine Ev.succ ?_
    simp only [seinelaw02_LinesSplit.l0, if_pos (show (n : Int) < (xs.length : Int) by omega), if_pos (show (0 : Int) ≤ (n : Int) by omega), List.length_map, rd31 xs n (by omega), hr, conv, if_true, bne_self_eq_false, Bool.false_eq_true, if_false, w64 (show -9223372036854775808 ≤ (n : Int) + 1 by omega) (show (n : Int) + 1 ≤ 9223372036854775807 by omega)]
    exact ih (n + 1) (by omega)

theorem LinesSplit : seinelaw02_LinesSplit.Pure := by
  intro t _ _ hw
  have hb := byt_of hw
  refine Ev.rounds (g := fun k => _) (r := true) ?_
  unfold seinelaw02_LinesSplit.f
  simp only [seinelaw02_awake.f, Option.bind_some, if_true]
  by_cases h1 : (t.length : Int) > 1000
  · simp only [if_pos h1]; exact Ev.const rfl
  simp only [if_neg h1, split_f t (by omega), Option.bind_some]
  have hlen := linesUp_len t 0 []
  simp at hlen
  refine Ev.bind (ref_split t (by omega) hb) ?_
  simp only [List.length_map, if_true]
  refine Ev.bind (count_f t (by omega)) ?_
  simp only [if_true]
  refine Ev.bind (bare_f t (by omega)) ?_
  have hr := ref_bare t (by omega) hb t.length 0 0 (by omega) (by omega)
  rw [Nat.zero_add] at hr
  refine Ev.bind hr ?_
  refine Ev.succ ?_
  simp only [seinelaw02_LinesSplit.j0, List.drop_zero, bne_self_eq_false, Bool.false_eq_true, if_false]
  exact same_loop _ (by omega) (linesUp t 0 []).length 0 (Nat.zero_add _)

end Go.Proofs.Ytccpobbebfgpbaa.Pure
