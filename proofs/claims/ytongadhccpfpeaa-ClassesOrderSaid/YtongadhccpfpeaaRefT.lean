/- What the references of layer 9 come to: a byte's class, and how many there are, of texts of bytes. For texts of no more than 1000 bytes in all. -/
import Derived.Test.YtongadhccpfpeaaBaseTx1
import Derived.Test.YtongadhccpfpeaaTxt9
import Derived.Lib.Bytes
namespace Go.Proofs.Ytongadhccpfpeaa.BaseT
open Go Go.RowKit Go.Proofs.YtongadhccpfpeaaW.PrintWords Go.Proofs.YtongadhccpfpeaaW.PrintLast Go.Proofs.Ytongadhccpfpeaa.Aid
open Go.Proofs.Ytongadhccpfpeaa.Base9 (cntp cntp_succ cntp_le clsK mk cntp_mono)
set_option linter.unusedVariables false
theorem str_app (a b : List Int) : strOfNums (a ++ b) = strOfNums a ++ strOfNums b := by
  apply ByteArray.ext
  simp [strOfNums, ByteArray.data_append]
theorem str_list (a : List Int) : (strOfNums a).toList = a.map fun n => UInt8.ofNat n.toNat := by
  exact Go.Lib.strOfNums_toList a
theorem str_inj : ∀ {a b : List Int}, Byt a → Byt b → (strOfNums a).toList = (strOfNums b).toList → a = b
  | [], [], _, _, _ => rfl
  | [], _ :: _, _, _, h => by rw [str_list, str_list] at h; simp at h
  | _ :: _, [], _, _, h => by rw [str_list, str_list] at h; simp at h
  | x :: a, y :: b, ha, hb, h => by
    rw [str_list, str_list, List.map_cons, List.map_cons] at h
    injection h with h1 h2
    have hx := ha x (by simp)
    have hy := hb y (by simp)
    have e : x = y := by
      have h3 := congrArg UInt8.toNat h1
      simp only [UInt8.toNat_ofNat'] at h3
      omega
    rw [e, str_inj (fun p hp => ha p (List.mem_cons_of_mem _ hp)) (fun p hp => hb p (List.mem_cons_of_mem _ hp)) (by rw [str_list, str_list]; exact h2)]
theorem in_loop (l : List Int) (hl : l.length ≤ 1000) (hb : Byt l) (c : Int) (d : Nat) : ∀ n : Nat, n + d = l.length →
    Ev (fun k => seineref01_In.l0 k (strOfNums l) c (n : Int)) (decide (c ∈ l.drop n)) := by
  have hs := size_str l
  induction d with
  | zero =>
    intro n hn
    refine Ev.succ ?_
    simp only [seineref01_In.l0, if_neg (show ¬ (n : Int) < ((strOfNums l).size : Int) by omega)]
    exact Ev.const (by rw [List.drop_of_length_le (by omega)]; simp)
  | succ d ih =>
    intro n hn
    have hbt : bt (strOfNums l) (n : Int) = l[n] := by rw [bt_str hb (by omega) (by omega), rd_nat l n (by omega)]
    have := ih (n + 1) (by omega)
    refine Ev.succ ?_
    simp only [seineref01_In.l0, if_pos (show (n : Int) < ((strOfNums l).size : Int) by omega), if_pos (show (0 : Int) ≤ (n : Int) by omega), hbt, w64 (show -9223372036854775808 ≤ (n : Int) + 1 by omega) (show (n : Int) + 1 ≤ 9223372036854775807 by omega)]
    rw [List.drop_eq_getElem_cons (show n < l.length by omega)]
    by_cases e : l[n] = c
    · simp only [if_pos e]
      exact Ev.const (by rw [e]; simp)
    · simp only [if_neg e]
      have e2 : decide (c ∈ l[n] :: l.drop (n + 1)) = decide (c ∈ l.drop (n + 1)) := by
        rw [decide_eq_decide, List.mem_cons]
        exact ⟨fun h => h.resolve_left (fun h => e h.symm), Or.inr⟩
      rw [e2]
      exact this
theorem ref_in (l : List Int) (hl : l.length ≤ 1000) (hb : Byt l) (c : Int) : Ev (fun k => seineref01_In.f k (strOfNums l) c) (decide (c ∈ l)) :=
  in_loop l hl hb c l.length 0 (by omega)
/-- a text's bytes below a number, rising -/
def upT (l : List Int) (n : Nat) : List Int := ((List.range n).map (fun (n : Nat) => (n : Int))).filter (fun x => decide (x ∈ l))
theorem upT_succ (l : List Int) (n : Nat) : upT l (n + 1) = upT l n ++ (if (n : Int) ∈ l then [(n : Int)] else []) := by
  unfold upT
  rw [List.range_succ, List.map_append, List.filter_append]
  congr 1
  simp only [List.map_cons, List.map_nil, List.filter_cons, List.filter_nil, decide_eq_true_eq]
theorem upT_len (l : List Int) (n : Nat) : (upT l n).length ≤ n := by
  unfold upT
  exact Nat.le_trans (List.length_filter_le _ _) (by simp)
theorem list_loop (l : List Int) (hl : l.length ≤ 1000) (hb : Byt l) (d : Nat) : ∀ n : Nat, n + d = 256 →
    Ev (fun k => seineref01_List.l0 k (strOfNums l) (strOfNums (upT l n)) (n : Int)) (strOfNums (upT l 256)) := by
  induction d with
  | zero =>
    intro n hn
    refine Ev.succ ?_
    simp only [seineref01_List.l0, if_neg (show ¬ (n : Int) < 256 by omega)]
    exact Ev.const (by rw [show n = 256 by omega])
  | succ d ih =>
    intro n hn
    have := ih (n + 1) (by omega)
    have hs := size_str (upT l n)
    have hu := upT_len l n
    refine Ev.succ ?_
    simp only [seineref01_List.l0, if_pos (show (n : Int) < 256 by omega), show (n : Int) % 256 = (n : Int) by omega, w64 (show -9223372036854775808 ≤ (n : Int) + 1 by omega) (show (n : Int) + 1 ≤ 9223372036854775807 by omega), Option.bind_some]
    refine Ev.bind (ref_in l hl hb (n : Int)) ?_
    rw [upT_succ] at this
    by_cases e : (n : Int) ∈ l
    · rw [if_pos e, str_app] at this
      have h1 := size_str [(n : Int)]
      rw [List.length_cons, List.length_nil] at h1
      simp only [decide_eq_true e, if_true, if_pos (show (strOfNums (upT l n)).size + (strOfNums [(n : Int)]).size ≤ 9223372036854775807 by omega)]
      exact this
    · rw [if_neg e, List.append_nil] at this
      simp only [decide_eq_false e, Bool.false_eq_true, if_false]
      exact this
theorem ref_list (l : List Int) (hl : l.length ≤ 1000) (hb : Byt l) : Ev (fun k => seineref01_List.f k (strOfNums l)) (strOfNums (upT l 256)) :=
  list_loop l hl hb 256 0 (by omega)

theorem flat_len : ∀ L : List (List Int), (∀ x ∈ L, x.length ≤ 40) → L.flatten.length ≤ 40 * L.length
  | [], _ => by simp
  | x :: L, h => by
    have h1 := flat_len L (fun y hy => h y (List.mem_cons_of_mem _ hy))
    have h2 := h x (by simp)
    rw [List.flatten_cons, List.length_append, List.length_cons]
    omega
theorem all_loop (L : List (List Int)) (hl : L.flatten.length ≤ 1000) (hn0 : L.length ≤ 100) (d : Nat) : ∀ n : Nat, n + d = L.length →
    Ev (fun k => seineref09_All.l0 k (L.map strOfNums) (strOfNums (L.take n).flatten) (n : Int)) (strOfNums L.flatten) := by
  induction d with
  | zero =>
    intro n hn
    refine Ev.succ ?_
    simp only [seineref09_All.l0, List.length_map, if_neg (show ¬ (n : Int) < (L.length : Int) by omega)]
    rw [List.take_of_length_le (by omega)]
    exact Ev.const rfl
  | succ d ih =>
    intro n hn
    have h1 := ih (n + 1) (by omega)
    have hr : rdOf ByteArray.empty (L.map strOfNums) (n : Int) = strOfNums L[n] := by
      unfold rdOf
      rw [Int.toNat_natCast, List.getD_eq_getElem?_getD, List.getElem?_map, List.getElem?_eq_getElem (by omega)]; rfl
    have ht : (L.take (n + 1)).flatten = (L.take n).flatten ++ L[n] := by
      rw [List.take_succ_eq_append_getElem (by omega), List.flatten_append]; simp
    have hs1 := size_str (L.take n).flatten
    have hs2 := size_str L[n]
    have hle : ((L.take n).flatten ++ L[n]).length ≤ L.flatten.length := by
      rw [← ht]
      have h3 : L.flatten = (L.take (n + 1)).flatten ++ (L.drop (n + 1)).flatten := by rw [← List.flatten_append, List.take_append_drop]
      rw [h3, List.length_append]
      omega
    rw [List.length_append] at hle
    refine Ev.succ ?_
    simp only [seineref09_All.l0, List.length_map, if_pos (show (n : Int) < (L.length : Int) by omega), if_pos (show (0 : Int) ≤ (n : Int) by omega), hr, if_pos (show (strOfNums (L.take n).flatten).size + (strOfNums L[n]).size ≤ 9223372036854775807 by omega), w64 (show -9223372036854775808 ≤ (n : Int) + 1 by omega) (show (n : Int) + 1 ≤ 9223372036854775807 by omega)]
    rw [ht, str_app] at h1
    exact h1
theorem ref_all (L : List (List Int)) (hl : L.flatten.length ≤ 1000) (hn0 : L.length ≤ 100) : Ev (fun k => seineref09_All.f k (L.map strOfNums)) (strOfNums L.flatten) :=
  all_loop L hl hn0 L.length 0 (by omega)
theorem mk_flat (L : List (List Int)) (n : Nat) : mk L n = decide ((n : Int) ∈ L.flatten) := by
  unfold mk
  rw [decide_eq_decide, List.mem_flatten]
theorem class_loop (L : List (List Int)) (hl : L.flatten.length ≤ 1000) (hb : Byt L.flatten) (b : Nat) (hb2 : b < 256) (d : Nat) : ∀ n : Nat, n + d = b + 1 →
    Ev (fun k => seineref09_Class.l0 k (b : Int) (strOfNums L.flatten) (cntp (mk L) n : Int) (n : Int)) (cntp (mk L) (b + 1) : Int) := by
  induction d with
  | zero =>
    intro n hn
    refine Ev.succ ?_
    simp only [seineref09_Class.l0, w64 (show -9223372036854775808 ≤ (b : Int) by omega) (show (b : Int) ≤ 9223372036854775807 by omega), if_neg (show ¬ (n : Int) ≤ (b : Int) by omega)]
    rw [show n = b + 1 by omega]
    exact Ev.const rfl
  | succ d ih =>
    intro n hn
    have h1 := ih (n + 1) (by omega)
    have hc := cntp_succ (mk L) n
    have hcl := cntp_le (mk L) n
    refine Ev.succ ?_
    simp only [seineref09_Class.l0, w64 (show -9223372036854775808 ≤ (b : Int) by omega) (show (b : Int) ≤ 9223372036854775807 by omega), if_pos (show (n : Int) ≤ (b : Int) by omega), show (n : Int) % 256 = (n : Int) by omega, w64 (show -9223372036854775808 ≤ (n : Int) + 1 by omega) (show (n : Int) + 1 ≤ 9223372036854775807 by omega), w64 (show -9223372036854775808 ≤ (cntp (mk L) n : Int) + 1 by omega) (show (cntp (mk L) n : Int) + 1 ≤ 9223372036854775807 by omega)]
    refine Ev.bind (ref_in L.flatten hl hb (n : Int)) ?_
    by_cases e : (n : Int) ∈ L.flatten
    · rw [if_pos (by rw [mk_flat, decide_eq_true e])] at hc
      simp only [decide_eq_true e, if_true]
      rw [hc] at h1
      exact h1
    · rw [if_neg (by rw [mk_flat, decide_eq_false e]; exact Bool.false_ne_true), Nat.add_zero] at hc
      simp only [decide_eq_false e, Bool.false_eq_true, if_false]
      rw [hc] at h1
      exact h1
theorem ref_class (L : List (List Int)) (hl : L.flatten.length ≤ 1000) (hn0 : L.length ≤ 100) (hb : Byt L.flatten) (b : Int) (h0 : 0 ≤ b) (h1 : b < 256) : ∃ k, seineref09_Class.f k (L.map strOfNums) b = some (clsK (mk L) b.toNat : Int) := by
  obtain ⟨n, rfl⟩ := Int.eq_ofNat_of_zero_le h0
  refine Ev.rounds (g := fun k => seineref09_Class.f k (L.map strOfNums) (n : Int)) ?_
  unfold seineref09_Class.f
  refine Ev.bind (ref_all L hl hn0) ?_
  refine Ev.bind (ref_in L.flatten hl hb (n : Int)) ?_
  rw [Int.toNat_natCast]
  unfold clsK
  by_cases e : (n : Int) ∈ L.flatten
  · rw [if_pos (show mk L n = true by rw [mk_flat, decide_eq_true e])]
    simp only [decide_eq_true e, if_true]
    exact class_loop L hl hb n (by omega) (n + 1) 0 (by omega)
  · rw [if_neg (show ¬ mk L n = true by rw [mk_flat, decide_eq_false e]; exact Bool.false_ne_true)]
    simp only [decide_eq_false e, Bool.false_eq_true, if_false]
    exact Ev.const rfl
theorem upT_cnt (L : List (List Int)) : (upT L.flatten 256).length = cntp (mk L) 256 := by
  unfold upT cntp
  rw [List.filter_map, List.length_map]
  congr 1
  refine List.filter_congr (fun i hi => ?_)
  rw [mk_flat]; rfl
theorem ref_len (L : List (List Int)) (hl : L.flatten.length ≤ 1000) (hn0 : L.length ≤ 100) (hb : Byt L.flatten) : ∃ k, seineref09_Len.f k (L.map strOfNums) = some ((cntp (mk L) 256 : Int) + 1) := by
  refine Ev.rounds (g := fun k => seineref09_Len.f k (L.map strOfNums)) ?_
  unfold seineref09_Len.f
  refine Ev.bind (ref_all L hl hn0) ?_
  refine Ev.bind (ref_list L.flatten hl hb) ?_
  have h1 := size_str (upT L.flatten 256)
  rw [upT_cnt] at h1
  have h2 := cntp_le (mk L) 256
  rw [h1, w64 (by omega) (by omega)]
  exact Ev.const (by rw [Int.add_comm])
end Go.Proofs.Ytongadhccpfpeaa.BaseT
