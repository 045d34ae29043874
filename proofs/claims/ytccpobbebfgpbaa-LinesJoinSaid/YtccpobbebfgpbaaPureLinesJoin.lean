/- LinesJoin: texts without newlines that are joined are the lines of what comes of them. For every list of texts; no condition. -/
import Derived.Test.YtccpobbebfgpbaaStatLinesJoin
import Derived.Test.YtccpobbebfgpbaaLnsLinesJoin
namespace Go.Proofs.Ytccpobbebfgpbaa.Pure
open Go.RowKit Go.Proofs.Ytccpobbebfgpbaa.PLinesJoin Go.Proofs.YtccpobbebfgpbaaW.PrintWords Go.Proofs.YtccpobbebfgpbaaW.PrintLast Go.Proofs.Ytccpobbebfgpbaa.Aid Go.Proofs.Ytccpobbebfgpbaa.LnsLinesJoin

def linesOf : List (List Int) → Int → List S31
  | [], _ => []
  | x :: L, off => ⟨off, x, true⟩ :: linesOf L (off + x.length + 1)
def joinL : List (List Int) → List Int
  | [] => []
  | x :: L => x ++ 10 :: joinL L
def sumL : List (List Int) → Nat
  | [] => 0
  | x :: L => x.length + sumL L
theorem up_one : ∀ (x r : List Int) (off : Int) (cur : List Int), (∀ c ∈ x, c ≠ 10) → linesUp (x ++ 10 :: r) off cur = ⟨off, cur ++ x, true⟩ :: linesUp r (off + cur.length + x.length + 1) []
  | [], r, off, cur, _ => by rw [List.nil_append, linesUp_cons, if_pos rfl]; simp
  | c :: x, r, off, cur, h => by
    rw [List.cons_append, linesUp_cons, if_neg (h c (by simp)), up_one x r off (cur ++ [c]) (fun y hy => h y (List.mem_cons_of_mem _ hy))]
    rw [show off + ((cur ++ [c]).length : Int) + (x.length : Int) + 1 = off + (cur.length : Int) + ((c :: x).length : Int) + 1 by simp; omega, List.append_assoc]
    rfl
theorem up_join : ∀ (L : List (List Int)) (off : Int), (∀ x ∈ L, ∀ c ∈ x, c ≠ 10) → linesUp (joinL L) off [] = linesOf L off
  | [], off, _ => rfl
  | x :: L, off, h => by
    unfold joinL linesOf
    rw [up_one x _ off [] (h x (by simp)), up_join L _ (fun y hy => h y (List.mem_cons_of_mem _ hy))]
    rw [show off + (([] : List Int).length : Int) + (x.length : Int) + 1 = off + (x.length : Int) + 1 by simp]
    rfl
theorem len_of : ∀ (L : List (List Int)) (off : Int), (linesOf L off).length = L.length
  | [], _ => rfl
  | x :: L, off => by unfold linesOf; rw [List.length_cons, len_of L, List.length_cons]
theorem bare_none : ∀ x : List Int, (∀ c ∈ x, c ≠ 10) → bareN x = x.length
  | [], _ => rfl
  | c :: x, h => by rw [bareN_cons, if_neg (h c (by simp)), bare_none x (fun y hy => h y (List.mem_cons_of_mem _ hy))]; rfl
theorem bare_join : ∀ L : List (List Int), (∀ x ∈ L, ∀ c ∈ x, c ≠ 10) → bareN (joinL L) = sumL L
  | [], _ => rfl
  | x :: L, h => by
    unfold joinL sumL
    rw [bareN_app, bare_none x (h x (by simp)), bareN_cons, if_pos rfl, bare_join L (fun y hy => h y (List.mem_cons_of_mem _ hy))]
theorem len_join : ∀ L : List (List Int), (joinL L).length = sumL L + L.length
  | [] => rfl
  | x :: L => by unfold joinL sumL; simp [len_join L]; omega
theorem sumL_cons (x : List Int) (L : List (List Int)) : sumL (x :: L) = x.length + sumL L := rfl
theorem sum_app : ∀ A B : List (List Int), sumL (A ++ B) = sumL A + sumL B
  | [], B => by simp [sumL]
  | x :: A, B => by rw [List.cons_append, sumL_cons, sumL_cons, sum_app A B]; omega
theorem join_app : ∀ A B : List (List Int), joinL (A ++ B) = joinL A ++ joinL B
  | [], B => rfl
  | x :: A, B => by show x ++ 10 :: joinL (A ++ B) = _; rw [join_app A B]; show _ = (x ++ 10 :: joinL A) ++ joinL B; simp
theorem sum_le (L : List (List Int)) (h : ∀ x ∈ L, x.length ≤ 100) : sumL L ≤ 100 * L.length := by
  induction L with
  | nil => simp [sumL]
  | cons x L ih =>
    have := ih (fun y hy => h y (List.mem_cons_of_mem _ hy))
    have := h x (by simp)
    unfold sumL
    rw [List.length_cons]
    omega
theorem rdL (L : List (List Int)) (n : Nat) (h : n < L.length) : rd_L1 L (n : Int) = L[n] := by
  unfold rd_L1; rw [Int.toNat_natCast, List.getD_eq_getElem?_getD, List.getElem?_eq_getElem h]; rfl
theorem join_loop (L : List (List Int)) (hL : L.length ≤ 40) (hx : ∀ x ∈ L, x.length ≤ 100) (d : Nat) : ∀ n : Nat, n + d = L.length →
    Ev (fun k => lines_Join.l0 k (joinL (L.take n)) L (L.length : Int) (n : Int)) (joinL L) := by
  induction d with
  | zero =>
    intro n hn
    refine Ev.succ ?_
    simp only [lines_Join.l0, if_neg (show ¬ (n : Int) < (L.length : Int) by omega)]
    exact Ev.const (by rw [List.take_of_length_le (by omega)])
  | succ d ih =>
    intro n hn
    have h1 := len_join (L.take n)
    have h2 := sum_le (L.take n) (fun x hx' => hx x (List.mem_of_mem_take hx'))
    have h3 := hx L[n] (List.getElem_mem _)
    rw [List.length_take] at h1 h2
    have := ih (n + 1) (by omega)
    rw [List.take_succ_eq_append_getElem (by omega), join_app] at this
    refine Ev.succ ?_
    simp only [lines_Join.l0, if_pos (show (n : Int) < (L.length : Int) by omega), if_pos (show (0 : Int) ≤ (n : Int) by omega), rdL L n (by omega), if_pos (show (joinL (L.take n)).length + (L[n]).length < 140737488355328 by omega), Option.bind_some, if_pos (show (joinL (L.take n) ++ L[n]).length < 140737488355328 by rw [List.length_append]; omega), w64 (show -9223372036854775808 ≤ (n : Int) + 1 by omega) (show (n : Int) + 1 ≤ 9223372036854775807 by omega)]
    have e : joinL (L.take n) ++ L[n] ++ [10] = joinL (L.take n) ++ joinL [L[n]] := by simp [joinL]
    rw [e]
    exact this
theorem join_f (L : List (List Int)) (hL : L.length ≤ 40) (hx : ∀ x ∈ L, x.length ≤ 100) : Ev (fun k => lines_Join.f k L) (joinL L) := join_loop L hL hx L.length 0 (by omega)
theorem of_get : ∀ (L : List (List Int)) (off : Int) (n : Nat) (h : n < (linesOf L off).length) (h2 : n < L.length), ((linesOf L off)[n]).f1 = L[n] ∧ ((linesOf L off)[n]).f2 = true
  | [], _, _, h, _ => by simp [linesOf] at h
  | x :: L, off, 0, h, _ => ⟨rfl, rfl⟩
  | x :: L, off, n + 1, h, h2 => of_get L _ n (by simpa [linesOf] using h) (by simpa using h2)
theorem l2_loop (L : List (List Int)) (hL : L.length ≤ 40) (d : Nat) : ∀ n : Nat, n + d = L.length → Ev (fun k => seinelaw02_LinesJoin.l2 k L (linesOf L 0) (n : Int)) true := by
  have hlen := len_of L 0
  induction d with
  | zero =>
    intro n hn
    refine Ev.succ ?_
    simp only [seinelaw02_LinesJoin.l2, if_neg (show ¬ (n : Int) < (L.length : Int) by omega)]
    exact Ev.const rfl
  | succ d ih =>
    intro n hn
    obtain ⟨g1, g2⟩ := of_get L 0 n (by omega) (by omega)
    have hr := rd31 (linesOf L 0) n (by omega)
    refine Ev.succ ?_
    simp only [seinelaw02_LinesJoin.l2, if_pos (show (n : Int) < (L.length : Int) by omega), if_pos (show (0 : Int) ≤ (n : Int) by omega), hlen, hr, g1, g2, rdL L n (by omega), if_true, w64 (show -9223372036854775808 ≤ (n : Int) + 1 by omega) (show (n : Int) + 1 ≤ 9223372036854775807 by omega)]
    exact ih (n + 1) (by omega)
theorem l0_end (L : List (List Int)) (hL : L.length ≤ 40) (hx : ∀ x ∈ L, x.length ≤ 100) (h10 : ∀ x ∈ L, ∀ c ∈ x, c ≠ 10) : Ev (fun k => seinelaw02_LinesJoin.l0 k L (sumL L : Int) (L.length : Int)) true := by
  have h1 := len_join L
  have h2 := sum_le L hx
  refine Ev.succ ?_
  simp only [seinelaw02_LinesJoin.l0, if_neg (show ¬ (L.length : Int) < (L.length : Int) by omega)]
  refine Ev.bind (join_f L hL hx) ?_
  have hs := split_f (joinL L) (by omega)
  have hc := count_f (joinL L) (by omega)
  rw [up_join L 0 h10] at hs hc
  rw [len_of] at hc
  simp only [hs, Option.bind_some, len_of, if_true]
  have hb := bare_f (joinL L) (by omega)
  rw [bare_join L h10] at hb
  refine Ev.bind hb ?_
  simp only [if_true, w64 (show -9223372036854775808 ≤ (sumL L : Int) + (L.length : Int) by omega) (show (sumL L : Int) + (L.length : Int) ≤ 9223372036854775807 by omega), if_pos (show ((joinL L).length : Int) = (sumL L : Int) + (L.length : Int) by omega)]
  refine Ev.bind hc ?_
  refine Ev.succ ?_
  simp only [seinelaw02_LinesJoin.j2, bne_self_eq_false, Bool.false_eq_true, if_false]
  exact l2_loop L hL L.length 0 (by omega)
theorem l1_loop (L : List (List Int)) (hL : L.length ≤ 40) (i : Nat) (hi : i < L.length) (hx : ∀ x ∈ L.take (i + 1), x.length ≤ 100) (after : (∀ c ∈ L[i], c ≠ 10) → Ev (fun k => seinelaw02_LinesJoin.l0 k L (sumL (L.take (i + 1)) : Int) ((i + 1 : Nat) : Int)) true) (d : Nat) :
    ∀ m : Nat, m + d = (L[i]).length → (∀ c ∈ (L[i]).take m, c ≠ 10) → Ev (fun k => seinelaw02_LinesJoin.l1 k L (sumL (L.take i) : Int) (i : Int) (m : Int)) true := by
  have hs := sum_le (L.take (i + 1)) hx
  have he : sumL (L.take (i + 1)) = sumL (L.take i) + (L[i]).length := by rw [List.take_succ_eq_append_getElem hi, sum_app]; simp [sumL]
  rw [List.length_take] at hs
  have hr := rdL L i hi
  have hxi := hx L[i] (by rw [List.take_succ_eq_append_getElem hi]; exact List.mem_append.mpr (Or.inr (List.mem_singleton.mpr rfl)))
  induction d with
  | zero =>
    intro m hm hc
    rw [List.take_of_length_le (by omega)] at hc
    have := after hc
    refine Ev.succ ?_
    simp only [seinelaw02_LinesJoin.l1, if_pos (show (0 : Int) ≤ (i : Int) by omega), if_pos (show (i : Int) < (L.length : Int) by omega), hr, if_neg (show ¬ (m : Int) < ((L[i]).length : Int) by omega), w64 (show -9223372036854775808 ≤ (i : Int) + 1 by omega) (show (i : Int) + 1 ≤ 9223372036854775807 by omega), w64 (show -9223372036854775808 ≤ (sumL (L.take i) : Int) + ((L[i]).length : Int) by omega) (show (sumL (L.take i) : Int) + ((L[i]).length : Int) ≤ 9223372036854775807 by omega)]
    rw [he] at this
    exact this
  | succ d ih =>
    intro m hm hc
    refine Ev.succ ?_
    simp only [seinelaw02_LinesJoin.l1, if_pos (show (0 : Int) ≤ (i : Int) by omega), if_pos (show (i : Int) < (L.length : Int) by omega), hr, if_pos (show (m : Int) < ((L[i]).length : Int) by omega), if_pos (show (0 : Int) ≤ (m : Int) by omega), rd_nat L[i] m (by omega), w64 (show -9223372036854775808 ≤ (m : Int) + 1 by omega) (show (m : Int) + 1 ≤ 9223372036854775807 by omega)]
    by_cases e : (L[i])[m] = 10
    · simp only [if_pos e]; exact Ev.const rfl
    · simp only [if_neg e]
      refine ih (m + 1) (by omega) (fun c hc' => ?_)
      rw [List.take_succ_eq_append_getElem (by omega)] at hc'
      rcases List.mem_append.mp hc' with h | h
      · exact hc c h
      · rw [List.mem_singleton] at h; rw [h]; exact e
theorem l0_loop (L : List (List Int)) (hL : L.length ≤ 40) (d : Nat) : ∀ n : Nat, n + d = L.length → (∀ x ∈ L.take n, x.length ≤ 100) → (∀ x ∈ L.take n, ∀ c ∈ x, c ≠ 10) →
    Ev (fun k => seinelaw02_LinesJoin.l0 k L (sumL (L.take n) : Int) (n : Int)) true := by
  induction d with
  | zero =>
    intro n hn hx h10
    rw [List.take_of_length_le (by omega)] at hx h10 ⊢
    rw [show n = L.length by omega]
    exact l0_end L hL hx h10
  | succ d ih =>
    intro n hn hx h10
    have hr := rdL L n (by omega)
    refine Ev.succ ?_
    simp only [seinelaw02_LinesJoin.l0, if_pos (show (n : Int) < (L.length : Int) by omega), if_pos (show (0 : Int) ≤ (n : Int) by omega), hr]
    by_cases h : ((L[n]).length : Int) > 100
    · simp only [if_pos h]; exact Ev.const rfl
    · simp only [if_neg h]
      have hx2 : ∀ x ∈ L.take (n + 1), x.length ≤ 100 := by
        intro x hx'
        rw [List.take_succ_eq_append_getElem (by omega)] at hx'
        rcases List.mem_append.mp hx' with h' | h'
        · exact hx x h'
        · rw [List.mem_singleton] at h'; rw [h']; omega
      refine l1_loop L hL n (by omega) hx2 (fun hc => ih (n + 1) (by omega) hx2 (fun x hx' => ?_)) (L[n]).length 0 (by omega) (by simp)
      rw [List.take_succ_eq_append_getElem (by omega)] at hx'
      rcases List.mem_append.mp hx' with h' | h'
      · exact h10 x h'
      · rw [List.mem_singleton] at h'; rw [h']; exact hc
theorem LinesJoin : Go.Proofs.Ytccpobbebfgpbaa.StatLinesJoin.Pure := by
  intro L _ _ _
  refine Ev.rounds (g := fun k => _) (r := true) ?_
  unfold seinelaw02_LinesJoin.f
  simp only [seinelaw02_awake.f, Option.bind_some, if_true]
  by_cases h1 : (L.length : Int) > 40
  · simp only [if_pos h1]; exact Ev.const rfl
  simp only [if_neg h1]
  exact l0_loop L (by omega) L.length 0 (by omega) (by simp) (by simp)

end Go.Proofs.Ytccpobbebfgpbaa.Pure
