/- A class's bytes, counted: one each, but for the bytes that have none; together 256. For every mark; no condition. -/
import Derived.Test.YtongadhccpfpeaaMeth
namespace Go.Proofs.Ytongadhccpfpeaa.Base9
open Go Go.RowKit
set_option linter.unusedVariables false
theorem clsK_eq_zero (p : Nat → Bool) (b : Nat) : clsK p b = 0 ↔ p b = false := by
  unfold clsK
  by_cases h : p b = true
  · have := cntp_succ p b
    rw [if_pos h] at this
    rw [if_pos h, h]
    simp; omega
  · rw [if_neg h]; simpa using h
theorem clsK_le (p : Nat → Bool) (b : Nat) (hb : b < 256) : clsK p b ≤ cntp p 256 := by
  unfold clsK
  split
  · exact cntp_mono p (by omega)
  · omega
theorem mem_bytesK (p : Nat → Bool) (k x : Int) : x ∈ bytesK p k ↔ ∃ b : Nat, b < 256 ∧ x = (b : Int) ∧ (clsK p b : Int) = k := by
  unfold bytesK upK
  rw [List.mem_map]
  constructor
  · rintro ⟨b, hb, rfl⟩
    rw [List.mem_filter, List.mem_range] at hb
    exact ⟨b, hb.1, rfl, by simpa using hb.2⟩
  · rintro ⟨b, h1, rfl, h2⟩
    exact ⟨b, by rw [List.mem_filter, List.mem_range]; exact ⟨h1, by simpa using h2⟩, rfl⟩
theorem bytesK_rise (p : Nat → Bool) (k : Int) : (bytesK p k).Pairwise (· < ·) := by
  unfold bytesK upK
  rw [List.pairwise_map]
  refine List.Pairwise.imp ?_ (List.Pairwise.filter _ (List.pairwise_lt_range (n := 256)))
  intro a b h
  omega
theorem cnt_eq (x n : Nat) : cntp (fun b => b == x) n = if x < n then 1 else 0 := by
  induction n with
  | zero => simp [cntp]
  | succ n ih =>
    rw [cntp_succ, ih]
    by_cases h : n = x
    · subst h; simp
    · have h2 : (n == x) = false := by simpa using h
      rw [h2, if_neg Bool.false_ne_true]
      by_cases h3 : x < n
      · rw [if_pos h3, if_pos (show x < n + 1 by omega)]
      · rw [if_neg h3, if_neg (show ¬ x < n + 1 by omega)]
theorem bytesK_one (p : Nat → Bool) (i : Nat) (h0 : 0 < i) (h1 : i ≤ cntp p 256) : (bytesK p (i : Int)).length = 1 := by
  obtain ⟨x, hx, hp, _, hc⟩ := at_m p 256 (i - 1) (by omega)
  unfold bytesK upK
  rw [List.length_map]
  have e : (List.range 256).filter (fun b => (clsK p b : Int) == (i : Int)) = (List.range 256).filter (fun b => b == x) := by
    refine List.filter_congr (fun b hb => ?_)
    rw [Bool.eq_iff_iff]
    simp only [beq_iff_eq]
    constructor
    · intro h
      have h2 : clsK p b = i := by omega
      unfold clsK at h2
      split at h2
      · rename_i hb2
        exact cntp_inj p hb2 hp (by omega)
      · omega
    · rintro rfl
      unfold clsK
      rw [if_pos hp]
      omega
  rw [e]
  have h := cnt_eq x 256
  rw [if_pos hx] at h
  exact h
theorem cnt_not (p : Nat → Bool) (n : Nat) : cntp (fun b => !(p b)) n + cntp p n = n := by
  induction n with
  | zero => simp [cntp]
  | succ n ih =>
    rw [cntp_succ, cntp_succ]
    by_cases h : p n = true <;> simp [h] <;> omega
theorem bytesK_zero (p : Nat → Bool) : (bytesK p 0).length + cntp p 256 = 256 := by
  have h := cnt_not p 256
  have e : (bytesK p 0).length = cntp (fun b => !(p b)) 256 := by
    unfold bytesK upK cntp
    rw [List.length_map]
    congr 1
    refine List.filter_congr (fun b hb => ?_)
    rw [Bool.eq_iff_iff]
    simp only [beq_iff_eq, Bool.not_eq_true']
    rw [← clsK_eq_zero]
    omega
  omega
theorem bytesK_none (p : Nat → Bool) (k : Int) (h : k < 0 ∨ (cntp p 256 : Int) + 1 ≤ k) : bytesK p k = [] := by
  rw [List.eq_nil_iff_forall_not_mem]
  intro x hx
  obtain ⟨b, h1, _, h2⟩ := (mem_bytesK p k x).mp hx
  have := clsK_le p b h1
  omega
/-- how many bytes the classes below a number have -/
def totN (c : Nat) (i : Nat) : Nat := if i = 0 then 0 else 256 - c + (i - 1)
theorem tot_succ (p : Nat → Bool) (i : Nat) (h : i ≤ cntp p 256) : totN (cntp p 256) (i + 1) = totN (cntp p 256) i + (bytesK p (i : Int)).length := by
  have hc := cntp_le p 256
  unfold totN
  rw [if_neg (by omega)]
  by_cases h0 : i = 0
  · subst h0
    have := bytesK_zero p
    simp only [if_true]
    rw [show ((0 : Nat) : Int) = 0 from rfl]
    omega
  · rw [if_neg h0, bytesK_one p i (by omega) h]
    omega
theorem tot_end (p : Nat → Bool) : totN (cntp p 256) (cntp p 256 + 1) = 256 := by
  have hc := cntp_le p 256
  unfold totN
  rw [if_neg (by omega)]
  omega
theorem tot_le (c i : Nat) (hc : c ≤ 256) (h : i ≤ c + 1) : totN c i ≤ 256 := by
  unfold totN
  split <;> omega
end Go.Proofs.Ytongadhccpfpeaa.Base9
