/- FoldBytes: any bytes without case, and whether they are so, are the document's. For every list of bytes; no condition. -/
import Derived.Test.YtaegjpabkkoleaaPFoldBytesx3
import Derived.Test.YtaegjpabkkoleaaAid
import Derived.Lib.Bytes
namespace Go.Proofs.Ytaegjpabkkoleaa.Pure
open Go.RowKit Go.Proofs.Ytaegjpabkkoleaa.PFoldBytes Go.Proofs.YtaegjpabkkoleaaW.PrintWords Go.Proofs.YtaegjpabkkoleaaW.PrintLast Go.Proofs.Ytaegjpabkkoleaa.Aid

theorem str_app (a b : List Int) : strOfNums (a ++ b) = strOfNums a ++ strOfNums b := by
  apply ByteArray.ext
  simp [strOfNums, ByteArray.data_append]
theorem str_list (a : List Int) : (strOfNums a).toList = a.map fun n => UInt8.ofNat n.toNat := by
  exact Go.Lib.strOfNums_toList a
theorem str_inj : ∀ {a b : List Int}, Byt a → Byt b → (strOfNums a).toList = (strOfNums b).toList → a = b
  | [], [], _, _, _ => rfl
  | [], _ :: _, _, _, h => by rw [str_list, str_list] at h; simp at h
  | _ :: _, [], _, _, h => by rw [str_list, str_list] at h; simp at h
  | x :: a, y :: b, ha, hb, h => by
    rw [str_list, str_list, List.map_cons, List.map_cons] at h
    injection h with h1 h2
    have hx := ha x (by simp)
    have hy := hb y (by simp)
    have e : x = y := by
      have h3 := congrArg UInt8.toNat h1
      simp only [UInt8.toNat_ofNat'] at h3
      omega
    rw [e, str_inj (fun p hp => ha p (List.mem_cons_of_mem _ hp)) (fun p hp => hb p (List.mem_cons_of_mem _ hp)) (by rw [str_list, str_list]; exact h2)]
theorem ref_byte (c : Int) (h0 : 0 ≤ c) (h1 : c ≤ 255) : seineref01_Byte.f c = some (byteI c) := by
  unfold seineref01_Byte.f byteI upB
  by_cases h : c ≥ 65
  · by_cases k : c ≤ 90
    · simp [h, k]; omega
    · simp [h, k]
  · simp [h]
theorem byteI_byt (c : Int) (h0 : 0 ≤ c) (h1 : c ≤ 255) : 0 ≤ byteI c ∧ byteI c ≤ 255 := by
  unfold byteI upB
  split
  · rename_i h; simp at h; omega
  · omega
theorem ref_loop (l : List Int) (hl : l.length ≤ 1000) (hb : Byt l) (d : Nat) : ∀ n : Nat, n + d = l.length →
    Ev (fun k => seineref01_Bytes.l0 k (strOfNums l) (strOfNums ((l.take n).map byteI)) (n : Int)) (strOfNums (l.map byteI)) := by
  have hs := size_str l
  induction d with
  | zero =>
    intro n hn
    refine Ev.succ ?_
    simp only [seineref01_Bytes.l0]
    simp only [if_neg (show ¬ (n : Int) < ((strOfNums l).size : Int) by omega)]
    exact Ev.const (by rw [List.take_of_length_le (by omega)])
  | succ d ih =>
    intro n hn
    have hbt : bt (strOfNums l) (n : Int) = l[n] := by rw [bt_str hb (by omega) (by omega), rd_nat l n (by omega)]
    have hr := hb l[n] (List.getElem_mem (by omega))
    have hsz := size_str ((l.take n).map byteI)
    rw [List.length_map, List.length_take] at hsz
    have := ih (n + 1) (by omega)
    rw [List.take_succ_eq_append_getElem (by omega), List.map_append, str_app] at this
    refine Ev.succ ?_
    simp only [seineref01_Bytes.l0]
    simp only [if_pos (show (n : Int) < ((strOfNums l).size : Int) by omega), if_pos (show (0 : Int) ≤ (n : Int) by omega), hbt, ref_byte l[n] hr.1 hr.2, Option.bind_some, if_pos (show (strOfNums ((l.take n).map byteI)).size + (strOfNums [byteI l[n]]).size ≤ 9223372036854775807 by rw [size_str [byteI l[n]]]; simp only [List.length_cons, List.length_nil]; omega), w64 (show -9223372036854775808 ≤ (n : Int) + 1 by omega) (show (n : Int) + 1 ≤ 9223372036854775807 by omega)]
    exact this
theorem ref_bytes (l : List Int) (hl : l.length ≤ 1000) (hb : Byt l) : Ev (fun k => seineref01_Bytes.f k (strOfNums l)) (strOfNums (l.map byteI)) :=
  ref_loop l hl hb l.length 0 (by omega)
theorem fixed_iff (l : List Int) : (!anyUp l) = decide (l.map byteI = l) := by
  induction l with
  | nil => rfl
  | cons x l ih =>
    unfold anyUp at ih ⊢
    rw [List.any_cons, Bool.not_or, ih, List.map_cons]
    by_cases h : upB x = true
    · have hne : ¬ (byteI x :: l.map byteI = x :: l) := by
        intro e
        have e1 := (List.cons.inj e).1
        unfold byteI at e1
        rw [if_pos h] at e1
        omega
      rw [h, decide_eq_false hne]
      rfl
    · have e1 : byteI x = x := by unfold byteI; rw [if_neg h]
      rw [Bool.eq_false_iff.mpr h, e1]
      simp
theorem FoldBytes : seinelaw01_FoldBytes.Pure := by
  intro l hm _ hw
  have hb := byt_of hw
  refine Ev.rounds (g := fun k => _) (r := true) ?_
  unfold seinelaw01_FoldBytes.f
  simp only [seinelaw01_awake.f, Option.bind_some, if_true]
  by_cases h1 : (l.length : Int) > 600
  · simp only [if_pos h1]; exact Ev.const rfl
  simp only [if_neg h1]
  have hb' : Byt (l.map byteI) := by
    intro x hx
    obtain ⟨y, hy, rfl⟩ := List.mem_map.mp hx
    exact byteI_byt y (hb y hy).1 (hb y hy).2
  refine Ev.bind (ref_bytes l (by omega) hb) ?_
  have hf : fold_Bytes.f l = some (l.map byteI) := by unfold fold_Bytes.f; rw [if_pos (by omega)]
  simp only [hf, Option.bind_some, if_true, fold_Fixed.f, fixed_iff]
  refine Ev.const ?_
  congr 1
  by_cases e : l.map byteI = l
  · rw [e]; simp
  · rw [decide_eq_false e]
    have : ((strOfNums (l.map byteI)).toList == (strOfNums l).toList) = false := by
      rw [beq_eq_false_iff_ne]
      exact fun h => e (str_inj hb' hb h)
    rw [this]; rfl

end Go.Proofs.Ytaegjpabkkoleaa.Pure
