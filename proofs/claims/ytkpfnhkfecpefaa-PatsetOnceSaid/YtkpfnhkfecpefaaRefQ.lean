/- What the document's functions of layer 4 come to: plain. -/
import Derived.Test.YtkpfnhkfecpefaaPatI
import Derived.Test.YtkpfnhkfecpefaaRefP
import Derived.Test.YtkpfnhkfecpefaaAid
import Derived.Lib.Bytes
namespace Go.Proofs.Ytkpfnhkfecpefaa.Ref
open Go Go.RowKit Go.Proofs Go.Proofs.YtkpfnhkfecpefaaW.PrintWords Go.Proofs.YtkpfnhkfecpefaaW.PrintLast Go.Proofs.YtkpfnhkfecpefaaW.PrintMore Go.Proofs.Ytkpfnhkfecpefaa.Pat Go.Proofs.Ytkpfnhkfecpefaa.Lin Go.Proofs.Ytkpfnhkfecpefaa.Aid
set_option linter.unusedVariables false
set_option linter.unusedSimpArgs false
theorem str_app (a b : List Int) : strOfNums (a ++ b) = strOfNums a ++ strOfNums b := by
  apply ByteArray.ext
  simp [strOfNums, ByteArray.data_append]
theorem str_list (a : List Int) : (strOfNums a).toList = sk a := Go.Lib.strOfNums_toList a
theorem ref_byte (c : Int) (h0 : 0 ≤ c) (h1 : c ≤ 255) : seineref01_Byte.f c = some (byteI c) := by
  unfold seineref01_Byte.f byteI upB
  by_cases h : c ≥ 65
  · by_cases k : c ≤ 90
    · simp [h, k]; omega
    · simp [h, k]
  · simp [h]
theorem byteI_byt (c : Int) (h0 : 0 ≤ c) (h1 : c ≤ 255) : 0 ≤ byteI c ∧ byteI c ≤ 255 := by
  unfold byteI upB
  split
  · rename_i h; simp at h; omega
  · omega
theorem refb_loop (l : List Int) (hl : l.length ≤ 2000) (hb : Byt l) (d : Nat) : ∀ n : Nat, n + d = l.length →
    Ev (fun k => seineref01_Bytes.l0 k (strOfNums l) (strOfNums ((l.take n).map byteI)) (n : Int)) (strOfNums (l.map byteI)) := by
  have hs := size_str l
  induction d with
  | zero =>
    intro n hn
    refine Ev.succ ?_
    simp only [seineref01_Bytes.l0]
    simp only [if_neg (show ¬ (n : Int) < ((strOfNums l).size : Int) by omega)]
    exact Ev.const (by rw [List.take_of_length_le (by omega)])
  | succ d ih =>
    intro n hn
    have hbt : bt (strOfNums l) (n : Int) = l[n] := by rw [bt_str hb (by omega) (by omega), rd_nat l n (by omega)]
    have hr := hb l[n] (List.getElem_mem (by omega))
    have hsz := size_str ((l.take n).map byteI)
    rw [List.length_map, List.length_take] at hsz
    have := ih (n + 1) (by omega)
    rw [List.take_succ_eq_append_getElem (by omega), List.map_append, str_app] at this
    refine Ev.succ ?_
    simp only [seineref01_Bytes.l0]
    simp only [if_pos (show (n : Int) < ((strOfNums l).size : Int) by omega), if_pos (show (0 : Int) ≤ (n : Int) by omega), hbt, ref_byte l[n] hr.1 hr.2, Option.bind_some, if_pos (show (strOfNums ((l.take n).map byteI)).size + (strOfNums [byteI l[n]]).size ≤ 9223372036854775807 by rw [size_str [byteI l[n]]]; simp only [List.length_cons, List.length_nil]; omega), w64 (show -9223372036854775808 ≤ (n : Int) + 1 by omega) (show (n : Int) + 1 ≤ 9223372036854775807 by omega)]
    exact this
theorem ref_bytes (l : List Int) (hl : l.length ≤ 2000) (hb : Byt l) : Ev (fun k => seineref01_Bytes.f k (strOfNums l)) (strOfNums (l.map byteI)) :=
  refb_loop l hl hb l.length 0 (by omega)
theorem str_cut (l : List Int) (a b : Nat) : (strOfNums l).extract a b = strOfNums ((l.take b).drop a) := by
  apply ByteArray.ext
  simp [strOfNums, List.drop_take]
def conv (x : SLX) : S59 := ⟨x.f0, strOfNums x.f1, x.f2⟩
theorem ref_loop (t : List Int) (ht : t.length ≤ 2000) (hb : Byt t) (d : Nat) : ∀ (n s : Nat) (out : List S59), n + d = t.length → s ≤ n → out.length ≤ n →
    Ev (fun k => seineref02_Split.l0 k (strOfNums t) out (s : Int) (n : Int)) (out ++ (linesUp (t.drop n) (s : Int) ((t.take n).drop s)).map conv) := by
  have hs := size_str t
  induction d with
  | zero =>
    intro n s out hn hsn ho
    refine Ev.succ ?_
    simp only [seineref02_Split.l0, if_neg (show ¬ (n : Int) < ((strOfNums t).size : Int) by omega)]
    rw [List.drop_of_length_le (show t.length ≤ n by omega)]
    by_cases h : s < t.length
    · simp only [if_pos (show (s : Int) < ((strOfNums t).size : Int) by omega), if_pos (show (0 : Int) ≤ (s : Int) by omega), if_pos (show (s : Int) ≤ ((strOfNums t).size : Int) by omega), if_pos (show out.length < 4398046511104 by omega), str_cut, Int.toNat_natCast]
      have hne : (t.take n).drop s ≠ [] := by
        intro e
        have := congrArg List.length e
        simp at this
        omega
      refine Ev.const ?_
      unfold linesUp
      rw [if_neg hne, show n = (strOfNums t).size by omega]
      rfl
    · simp only [if_neg (show ¬ (s : Int) < ((strOfNums t).size : Int) by omega)]
      have he : (t.take n).drop s = [] := List.drop_of_length_le (by simp; omega)
      rw [he]
      exact Ev.const (by simp [linesUp])
  | succ d ih =>
    intro n s out hn hsn ho
    have hbt : bt (strOfNums t) (n : Int) = t[n] := by rw [bt_str hb (by omega) (by omega), rd_nat t n (by omega)]
    rw [List.drop_eq_getElem_cons (show n < t.length by omega), linesUp_cons]
    refine Ev.succ ?_
    simp only [seineref02_Split.l0, if_pos (show (n : Int) < ((strOfNums t).size : Int) by omega), if_pos (show (0 : Int) ≤ (n : Int) by omega), hbt, w64 (show -9223372036854775808 ≤ (n : Int) + 1 by omega) (show (n : Int) + 1 ≤ 9223372036854775807 by omega)]
    by_cases e : t[n] = 10
    · have := ih (n + 1) (n + 1) (out ++ [⟨(s : Int), strOfNums ((t.take n).drop s), true⟩]) (by omega) (by omega) (by simp; omega)
      simp only [if_pos e, if_pos (show (0 : Int) ≤ (s : Int) by omega), if_pos (show (s : Int) ≤ (n : Int) by omega), if_pos (show (n : Int) ≤ ((strOfNums t).size : Int) by omega), if_pos (show out.length < 4398046511104 by omega), str_cut, Int.toNat_natCast]
      have hl : ((t.take n).drop s).length = n - s := by simp; omega
      rw [hl, show (s : Int) + ((n - s : Nat) : Int) + 1 = ((n + 1 : Nat) : Int) by omega, List.map_cons]
      rw [List.drop_of_length_le (show (t.take (n + 1)).length ≤ n + 1 by simp; omega), List.append_assoc] at this
      exact this
    · have := ih (n + 1) s out (by omega) (by omega) (by omega)
      simp only [if_neg e]
      rw [List.take_succ_eq_append_getElem (show n < t.length by omega), List.drop_append_of_le_length (by simp; omega)] at this
      exact this
theorem ref_split (t : List Int) (ht : t.length ≤ 2000) (hb : Byt t) : Ev (fun k => seineref02_Split.f k (strOfNums t)) ((linesUp t 0 []).map conv) := by
  have := ref_loop t ht hb t.length 0 0 [] (by omega) (by omega) (by simp)
  exact this

theorem rdOf_nat (M : List ByteArray) (n : Nat) (h : n < M.length) : rdOf ByteArray.empty M (n : Int) = M[n] := by
  unfold rdOf
  rw [Int.toNat_natCast, List.getD_eq_getElem?_getD, List.getElem?_eq_getElem h]
  rfl
theorem in_loop (l : List (List Int)) (b : List Int) (hl : l.length ≤ 1000000) (d : Nat) : ∀ n : Nat, n + d = l.length →
    Ev (fun k => seineref04_In.l0 k (l.map strOfNums) (strOfNums b) (n : Int)) (inP (l.drop n) b) := by
  induction d with
  | zero =>
    intro n hn
    refine Ev.succ ?_
    simp only [seineref04_In.l0, List.length_map, if_neg (show ¬ (n : Int) < (l.length : Int) by omega)]
    rw [List.drop_of_length_le (by omega)]
    exact Ev.const rfl
  | succ d ih =>
    intro n hn
    have hlt : n < l.length := by omega
    refine Ev.succ ?_
    have hr : rdOf ByteArray.empty (l.map strOfNums) (n : Int) = strOfNums l[n] := by rw [rdOf_nat _ n (by rw [List.length_map]; exact hlt), List.getElem_map]
    simp only [seineref04_In.l0, List.length_map, if_pos (show (n : Int) < (l.length : Int) by omega), if_pos (show (0 : Int) ≤ (n : Int) by omega), hr, str_list, w64 (show -9223372036854775808 ≤ (n : Int) + 1 by omega) (show (n : Int) + 1 ≤ 9223372036854775807 by omega)]
    have hd : l.drop n = l[n] :: l.drop (n + 1) := List.drop_eq_getElem_cons hlt
    by_cases he : sk l[n] = sk b
    · simp only [if_pos he]
      refine Ev.const ?_
      rw [hd]
      unfold inP
      rw [decide_eq_true]
      rw [List.map_cons, he]
      exact List.mem_cons_self
    · simp only [if_neg he]
      have := ih (n + 1) (by omega)
      have e : inP (l.drop n) b = inP (l.drop (n + 1)) b := by
        rw [hd]
        unfold inP
        rw [decide_eq_decide, List.map_cons, List.mem_cons]
        exact ⟨fun h => h.resolve_left (fun h2 => he h2.symm), Or.inr⟩
      rw [e]
      exact this
theorem ref_in (l : List (List Int)) (b : List Int) (hl : l.length ≤ 1000000) : Ev (fun k => seineref04_In.f k (l.map strOfNums) (strOfNums b)) (inP l b) := in_loop l b hl l.length 0 (by omega)
theorem addP_len (s : PS) (b : List Int) : (addP s b).l.length ≤ s.l.length + 1 := by
  unfold addP
  split
  · exact Nat.le_succ _
  · split
    · exact Nat.le_succ _
    · simp
theorem of_loop (L : List (List Int)) (hl : L.length ≤ 100000) (d : Nat) : ∀ (n : Nat) (s : PS), n + d = L.length → s.l.length ≤ n →
    Ev (fun k => seineref04_Of.l0 k (L.map strOfNums) (n : Int) (s.l.map strOfNums) s.e) (((L.drop n).foldl addP s).l.map strOfNums, ((L.drop n).foldl addP s).e) := by
  induction d with
  | zero =>
    intro n s hn hs
    refine Ev.succ ?_
    simp only [seineref04_Of.l0, List.length_map, if_neg (show ¬ (n : Int) < (L.length : Int) by omega)]
    rw [List.drop_of_length_le (by omega)]
    exact Ev.const rfl
  | succ d ih =>
    intro n s hn hs
    have hlt : n < L.length := by omega
    refine Ev.succ ?_
    have hr : rdOf ByteArray.empty (L.map strOfNums) (n : Int) = strOfNums L[n] := by rw [rdOf_nat _ n (by rw [List.length_map]; exact hlt), List.getElem_map]
    have hd : L.drop n = L[n] :: L.drop (n + 1) := List.drop_eq_getElem_cons hlt
    have hi := ih (n + 1) (addP s L[n]) (by omega) (by have := addP_len s L[n]; omega)
    simp only [seineref04_Of.l0, List.length_map, if_pos (show (n : Int) < (L.length : Int) by omega), if_pos (show (0 : Int) ≤ (n : Int) by omega), hr, str_list, w64 (show -9223372036854775808 ≤ (n : Int) + 1 by omega) (show (n : Int) + 1 ≤ 9223372036854775807 by omega)]
    rw [hd, List.foldl_cons]
    generalize L[n] = b at hi hr ⊢
    by_cases h0 : b.length = 0
    · have he : sk b = [] := by unfold sk; rw [List.length_eq_zero_iff.mp h0]; rfl
      have ha : addP s b = ⟨s.l, true⟩ := if_pos h0
      rw [ha] at hi ⊢
      simp only [if_pos he]
      exact hi
    · have he : ¬ sk b = [] := fun e => h0 (by have := congrArg List.length e; unfold sk at this; rwa [List.length_map] at this)
      simp only [if_neg he]
      refine Ev.bind (ref_in s.l b (by omega)) ?_
      cases hin : inP s.l b with
      | true =>
        have ha : addP s b = s := by unfold addP; rw [if_neg h0, if_pos hin]
        rw [ha] at hi ⊢
        exact hi
      | false =>
        have ha : addP s b = ⟨s.l ++ [b], s.e⟩ := by unfold addP; rw [if_neg h0, if_neg (by rw [hin]; decide)]
        rw [ha, List.map_append] at hi
        rw [ha]
        simp only [Bool.false_eq_true, if_false, if_pos (show s.l.length < 8796093022208 by omega)]
        exact hi
theorem ref_of (L : List (List Int)) (hl : L.length ≤ 100000) : Ev (fun k => seineref04_Of.f k (L.map strOfNums)) ((ofP L).l.map strOfNums, (ofP L).e) := of_loop L hl L.length 0 ⟨[], false⟩ (by omega) (Nat.le_refl _)
theorem tx_fold : ∀ (l cur : List Int), tx (l.map byteI) (cur.map byteI) = (tx l cur).map (List.map byteI)
  | [], cur => by
    show (if cur.map byteI = [] then [] else [cur.map byteI]) = (if cur = [] then [] else [cur]).map (List.map byteI)
    by_cases h : cur = []
    · subst h; rfl
    · rw [if_neg h, if_neg (by simpa using h)]; rfl
  | c :: l, cur => by
    have e1 : tx ((c :: l).map byteI) (cur.map byteI) = if byteI c = 10 then cur.map byteI :: tx (l.map byteI) [] else tx (l.map byteI) (cur.map byteI ++ [byteI c]) := rfl
    have e2 : tx (c :: l) cur = if c = 10 then cur :: tx l [] else tx l (cur ++ [c]) := rfl
    rw [e1, e2]
    by_cases h : c = 10
    · rw [if_pos h, if_pos ((byte_nl c).mpr h), List.map_cons]
      have := tx_fold l []
      rw [List.map_nil] at this
      rw [this]
    · rw [if_neg h, if_neg (fun e => h ((byte_nl c).mp e))]
      have := tx_fold l (cur ++ [c])
      rw [List.map_append] at this
      exact this
theorem lines_fold (fd : Bool) (l : List Int) : linesT (foldT fd l) = (linesT l).map (foldT fd) := by
  unfold linesT
  rw [tx_up, tx_up]
  cases fd with
  | true =>
    have := tx_fold l []
    rw [List.map_nil] at this
    exact this
  | false =>
    show tx l [] = (tx l []).map (fun x => x)
    rw [List.map_id']
theorem byt_up : ∀ (l : List Int) (off : Int) (cur : List Int), Byt l → Byt cur → ∀ y ∈ linesUp l off cur, Byt y.f1
  | [], off, cur, hl, hc, y, hy => by
    unfold linesUp at hy
    split at hy
    · cases hy
    · rw [List.mem_singleton] at hy; subst hy; exact hc
  | c :: l, off, cur, hl, hc, y, hy => by
    rw [linesUp_cons] at hy
    have hl2 : Byt l := fun x hx => hl x (List.mem_cons_of_mem _ hx)
    by_cases h : c = 10
    · rw [if_pos h, List.mem_cons] at hy
      rcases hy with rfl | hy
      · exact hc
      · exact byt_up l _ _ hl2 (fun x hx => by cases hx) y hy
    · rw [if_neg h] at hy
      refine byt_up l _ _ hl2 (fun x hx => ?_) y hy
      rcases List.mem_append.mp hx with hx | hx
      · exact hc x hx
      · rw [List.mem_singleton] at hx; subst hx; exact hl _ List.mem_cons_self
theorem load_loop (fd : Bool) (Y : List SLX) (hY : Y.length ≤ 2000) (hb : ∀ y ∈ Y, Byt y.f1 ∧ y.f1.length ≤ 2000) (d : Nat) : ∀ (n : Nat), n + d = Y.length →
    Ev (fun k => seineref04_Load.l0 k fd (((Y.take n).map fun y => strOfNums (foldT fd y.f1))) (Y.map conv) (n : Int)) ((ofP (Y.map fun y => foldT fd y.f1)).l.map strOfNums, (ofP (Y.map fun y => foldT fd y.f1)).e, 0) := by
  induction d with
  | zero =>
    intro n hn
    refine Ev.succ ?_
    simp only [seineref04_Load.l0, List.length_map, if_neg (show ¬ (n : Int) < (Y.length : Int) by omega)]
    rw [List.take_of_length_le (by omega)]
    have h := ref_of (Y.map fun y => foldT fd y.f1) (by rw [List.length_map]; omega)
    rw [List.map_map] at h
    exact Ev.bind h (Ev.const rfl)
  | succ d ih =>
    intro n hn
    have hlt : n < Y.length := by omega
    have hi := ih (n + 1) (by omega)
    rw [List.take_succ_eq_append_getElem hlt, List.map_append] at hi
    obtain ⟨hb1, hb2⟩ := hb Y[n] (List.getElem_mem hlt)
    have hr : rd_T59 (Y.map conv) (n : Int) = conv Y[n] := by
      unfold rd_T59
      rw [Int.toNat_natCast, List.getD_eq_getElem?_getD, List.getElem?_map, List.getElem?_eq_getElem hlt]
      rfl
    refine Ev.succ ?_
    simp only [seineref04_Load.l0, List.length_map, if_pos (show (n : Int) < (Y.length : Int) by omega), if_pos (show (0 : Int) ≤ (n : Int) by omega), hr, w64 (show -9223372036854775808 ≤ (n : Int) + 1 by omega) (show (n : Int) + 1 ≤ 9223372036854775807 by omega)]
    have hln : (Y.take n).length < 8796093022208 := by rw [List.length_take]; omega
    cases fd with
    | true =>
      simp only [if_true]
      refine Ev.bind (ref_bytes Y[n].f1 hb2 hb1) ?_
      simp only [if_pos hln]
      exact hi
    | false =>
      simp only [Bool.false_eq_true, if_false, if_pos hln]
      exact hi
theorem ref_load (l : List Int) (fd : Bool) (hb : Byt l) : Ev (fun k => seineref04_Load.f k (strOfNums l) fd) ((loadP l fd).l.map strOfNums, (loadP l fd).e, loadE l) := by
  have hs := size_str l
  unfold seineref04_Load.f loadP loadE
  by_cases h : 1024 < l.length
  · simp only [if_pos (show ((strOfNums l).size : Int) > 1024 by omega), if_pos h]
    exact Ev.const rfl
  · simp only [if_neg (show ¬ ((strOfNums l).size : Int) > 1024 by omega), if_neg h]
    refine Ev.bind (ref_split l (by omega) hb) ?_
    have hu := linesUp_len l 0 []
    simp only [List.length_nil] at hu
    have h2 := load_loop fd (linesUp l 0 []) (by omega) (fun y hy => ⟨byt_up l 0 [] hb (fun x hx => by cases hx) y hy, by have := up_text l 0 [] y hy; simp only [List.length_nil] at this; omega⟩) (linesUp l 0 []).length 0 (by omega)
    rw [lines_fold]
    unfold linesT
    rw [List.map_map]
    exact h2
end Go.Proofs.Ytkpfnhkfecpefaa.Ref
