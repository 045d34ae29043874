/- FoldTwice: without case twice is without case; as many bytes, and each one stays, or is 32 more. For every list of bytes; no condition. -/
import Derived.Test.YtaegjpabkkoleaaPFoldTwicex3
import Derived.Test.YtaegjpabkkoleaaAid
namespace Go.Proofs.Ytaegjpabkkoleaa.Pure
open Go.RowKit Go.Proofs.Ytaegjpabkkoleaa.PFoldTwice Go.Proofs.YtaegjpabkkoleaaW.PrintWords Go.Proofs.YtaegjpabkkoleaaW.PrintLast Go.Proofs.Ytaegjpabkkoleaa.Aid

theorem byteI_up {c : Int} (h : upB c = true) : byteI c = c + 32 ∧ 65 ≤ c ∧ c ≤ 90 := by
  refine ⟨by unfold byteI; rw [if_pos h], ?_⟩
  unfold upB at h
  simpa using h
theorem byteI_no {c : Int} (h : ¬ upB c = true) : byteI c = c ∧ ¬ (65 ≤ c ∧ c ≤ 90) := by
  refine ⟨by unfold byteI; rw [if_neg h], fun k => h ?_⟩
  unfold upB
  simp [k.1, k.2]
theorem byteI_twice (c : Int) : byteI (byteI c) = byteI c := by
  by_cases h : upB c = true
  · have h1 := byteI_up h
    by_cases k : upB (byteI c) = true
    · have := byteI_up k; omega
    · exact (byteI_no k).1
  · have h2 := (byteI_no h).1
    rw [h2, h2]
theorem anyUp_map (l : List Int) : anyUp (l.map byteI) = false := by
  unfold anyUp
  rw [List.any_eq_false]
  intro x hx k
  obtain ⟨y, _, rfl⟩ := List.mem_map.mp hx
  have h1 := byteI_up k
  by_cases h : upB y = true
  · have := byteI_up h; omega
  · have := byteI_no h; omega
theorem map_twice (l : List Int) : (l.map byteI).map byteI = l.map byteI := by
  rw [List.map_map]; exact List.map_congr_left (fun x _ => byteI_twice x)
theorem loop (l : List Int) (hb : Byt l) (hl : l.length ≤ 1000) (d : Nat) : ∀ n : Nat, n + d = l.length →
    Ev (fun k => seinelaw01_FoldTwice.l0 k l (l.map byteI) (n : Int)) true := by
  induction d with
  | zero =>
    intro n hn
    refine Ev.succ ?_
    simp only [seinelaw01_FoldTwice.l0]
    simp only [if_neg (show ¬ (n : Int) < (l.length : Int) by omega)]
    exact Ev.const rfl
  | succ d ih =>
    intro n hn
    have hx := hb l[n] (List.getElem_mem (by omega))
    have e1 : rd l (n : Int) = l[n] := rd_nat l n (by omega)
    have e2 : rd (l.map byteI) (n : Int) = byteI l[n] := by rw [rd_nat _ n (by rw [List.length_map]; omega), List.getElem_map]
    have hi := ih (n + 1) (by omega)
    refine Ev.succ ?_
    simp only [seinelaw01_FoldTwice.l0]
    simp only [if_pos (show (n : Int) < (l.length : Int) by omega), if_pos (show (0 : Int) ≤ (n : Int) by omega), if_pos (show (n : Int) < ((l.map byteI).length : Int) by rw [List.length_map]; omega), e1, e2, w64 (show -9223372036854775808 ≤ (n : Int) + 1 by omega) (show (n : Int) + 1 ≤ 9223372036854775807 by omega)]
    generalize l[n] = x at hx
    by_cases h : upB x = true
    · obtain ⟨h1, h2, h3⟩ := byteI_up h
      simp only [h1, if_neg (show ¬ x + 32 = x by omega), if_pos (show x + 32 = (x + 32) % 256 by omega), if_neg (show ¬ x < 65 by omega), if_neg (show ¬ x > 90 by omega), if_pos (show x + 32 ≥ 65 by omega), if_neg (show ¬ x + 32 ≤ 90 by omega)]
      exact hi
    · obtain ⟨h1, h2⟩ := byteI_no h
      simp only [h1, if_true]
      by_cases h3 : x ≥ 65
      · simp only [if_pos h3, if_neg (show ¬ x ≤ 90 by omega)]
        exact hi
      · simp only [if_neg h3]
        exact hi
theorem FoldTwice : seinelaw01_FoldTwice.Pure := by
  intro l hm _ hw
  have hb := byt_of hw
  refine Ev.rounds (g := fun k => _) (r := true) ?_
  unfold seinelaw01_FoldTwice.f
  simp only [seinelaw01_awake.f, Option.bind_some, if_true]
  by_cases h1 : (l.length : Int) > 600
  · simp only [if_pos h1]; exact Ev.const rfl
  have hf : fold_Bytes.f l = some (l.map byteI) := by unfold fold_Bytes.f; rw [if_pos (by omega)]
  have hf2 : fold_Bytes.f (l.map byteI) = some (l.map byteI) := by unfold fold_Bytes.f; rw [if_pos (by rw [List.length_map]; omega), map_twice]
  simp only [if_neg h1, hf, Option.bind_some, if_pos (show ((l.map byteI).length : Int) = (l.length : Int) by rw [List.length_map]), fold_Fixed.f, anyUp_map, Bool.not_false, if_true, hf2, bne_self_eq_false]
  refine Ev.succ ?_
  simp only [seinelaw01_FoldTwice.j0, Bool.false_eq_true, if_false]
  exact loop l hb (by omega) l.length 0 (by omega)

end Go.Proofs.Ytaegjpabkkoleaa.Pure
