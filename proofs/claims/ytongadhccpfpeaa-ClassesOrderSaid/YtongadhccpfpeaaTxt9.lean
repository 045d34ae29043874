/- What the law's own helpers come to: texts of byte texts, and whether a byte stands in one. For every list of texts that fits; no condition. -/
import Derived.Test.YtongadhccpfpeaaSet9
import Derived.Test.YtongadhccpfpeaaAid
import Derived.Test.YtongadhccpfpeaaMeth
namespace Go.Proofs.Ytongadhccpfpeaa.Base9
open Go Go.RowKit Go.Proofs.YtongadhccpfpeaaW.PrintWords Go.Proofs.YtongadhccpfpeaaW.PrintLast Go.Proofs.Ytongadhccpfpeaa.Aid
set_option linter.unusedVariables false
set_option linter.unusedSimpArgs false
theorem index27 (W : World) (tb : Array Value) (n : Nat) (hn : n < 256) (k : Int) (h : tb[n]? = some (.int .i64 k)) : (Instr.index 27 (.agg tb) (.int .i64 (n : Int))).run Try.prog W = .ok (.int .i64 k) W := by
  have h3 : (Try.prog.info? 3).map (·.size) = some 1 := by kernel_rfl
  obtain ⟨i3, hi3, he3⟩ := Option.map_eq_some_iff.mp h3
  have d1 : (n : Int) < 256 := by omega
  simp [Instr.index, Sem.run_bind, run_underlying (P := Try.prog) Try.underlying27, run_underlying (P := Try.prog) Try.underlying3, part, isAgg, sizeOf, typeInfo, hi3, he3, asIntOf, h, d1]
  intro hq
  omega
/-- a load of the whole struct, kept whole -/
def ld29 (v : Value) : Sem Value := Instr.loadAt 29 v
theorem ld29_eq (v : Value) : Instr.loadAt 29 v = ld29 v := rfl
theorem ld29_run (g : Nat) (cs : Array Value) (hs : cs.size = 257) : ∀ W : World, W.rangeAt g 0 cs.toList → (ld29 (.pointer (some ⟨g, 0, none⟩))).run Try.prog W = .ok (.agg cs) W := fun W h =>
  run_loadAt_mid W g 0 29 cs.toList _ h Try.underlying29 rfl (by rw [show cs.toList.length = 257 by simpa using hs]; exact info29)
theorem rdL (L : List (List Int)) (n : Nat) (h : n < L.length) : rd_L3 L (n : Int) = L[n] := by
  unfold rd_L3; rw [Int.toNat_natCast, List.getD_eq_getElem?_getD, List.getElem?_eq_getElem h]; rfl
theorem texts_loop (L : List (List Int)) (hl : L.length < 8796093022208) (d : Nat) : ∀ n : Nat, n + d = L.length →
    ∃ r : List ByteArray × Bool, Ev (fun k => seinelaw09_texts.l0 k L ((L.take n).map strOfNums) (n : Int)) r ∧ (r.2 = true → r.1 = L.map strOfNums ∧ L.length ≤ 12 ∧ ∀ x ∈ L.drop n, x.length ≤ 40) := by
  induction d with
  | zero =>
    intro n hn
    refine ⟨(L.map strOfNums, decide ((L.length : Int) ≤ 12)), ?_, fun h => ⟨rfl, ?_, ?_⟩⟩
    · refine Ev.succ ?_
      simp only [seinelaw09_texts.l0, if_neg (show ¬ (n : Int) < (L.length : Int) by omega)]
      rw [List.take_of_length_le (by omega)]
      exact Ev.const rfl
    · have := of_decide_eq_true h; omega
    · rw [List.drop_of_length_le (by omega)]
      intro x hx
      cases hx
  | succ d ih =>
    intro n hn
    have hr := rdL L n (by omega)
    by_cases h : ((L[n]).length : Int) > 40
    · refine ⟨([], false), ?_, fun h => by cases h⟩
      refine Ev.succ ?_
      simp only [seinelaw09_texts.l0, if_pos (show (n : Int) < (L.length : Int) by omega), if_pos (show (0 : Int) ≤ (n : Int) by omega), hr, if_pos h]
      exact Ev.const rfl
    · obtain ⟨r, h1, h2⟩ := ih (n + 1) (by omega)
      refine ⟨r, ?_, fun q => ⟨(h2 q).1, (h2 q).2.1, fun x hx => ?_⟩⟩
      · refine Ev.succ ?_
        simp only [seinelaw09_texts.l0, if_pos (show (n : Int) < (L.length : Int) by omega), if_pos (show (0 : Int) ≤ (n : Int) by omega), hr, if_neg h, if_pos (show ((L.take n).map strOfNums).length < 8796093022208 by rw [List.length_map, List.length_take]; omega), w64 (show -9223372036854775808 ≤ (n : Int) + 1 by omega) (show (n : Int) + 1 ≤ 9223372036854775807 by omega)]
        rw [List.take_succ_eq_append_getElem (by omega), List.map_append] at h1
        exact h1
      · rw [List.drop_eq_getElem_cons (by omega)] at hx
        rcases List.mem_cons.mp hx with rfl | hx
        · omega
        · exact (h2 q).2.2 x hx
theorem texts_tot (L : List (List Int)) (hl : L.length < 8796093022208) : ∃ k r1 r2, seinelaw09_texts.f k L = some (r1, r2) ∧ (r2 = true → r1 = L.map strOfNums ∧ L.length ≤ 12 ∧ ∀ x ∈ L, x.length ≤ 40) := by
  obtain ⟨⟨r1, r2⟩, h, h2⟩ := texts_loop L hl L.length 0 (by omega)
  obtain ⟨k, hk⟩ := Ev.rounds (g := fun k => seinelaw09_texts.f k L) (r := (r1, r2)) h
  exact ⟨k, r1, r2, hk, h2⟩
def stB (L : List (List Int)) (b : Int) : Bool := decide (∃ l ∈ L, b ∈ l)
theorem stB_nil (b : Int) : stB [] b = false := by simp [stB]
theorem stB_cons (x : List Int) (L : List (List Int)) (b : Int) : stB (x :: L) b = (decide (b ∈ x) || stB L b) := by simp [stB]
theorem stands_loop (L : List (List Int)) (hl : L.length < 8796093022208) (hm : ∀ x ∈ L, x.length ≤ 9223372036854775807) (b : Int) (d : Nat) : ∀ n : Nat, n + d = L.length →
    Ev (fun k => seinelaw09_stands.l0 k L b (n : Int)) (stB (L.drop n) b) := by
  induction d with
  | zero =>
    intro n hn
    refine Ev.succ ?_
    simp only [seinelaw09_stands.l0, if_neg (show ¬ (n : Int) < (L.length : Int) by omega)]
    rw [List.drop_of_length_le (by omega)]
    rw [stB_nil]
    exact Ev.const rfl
  | succ d ih =>
    intro n hn
    have hr := rdL L n (by omega)
    have hx := hm L[n] (List.getElem_mem (by omega))
    refine Ev.succ ?_
    simp only [seinelaw09_stands.l0, if_pos (show (n : Int) < (L.length : Int) by omega)]
    have ih1 := ih (n + 1) (by omega)
    have hd : L.drop n = L[n] :: L.drop (n + 1) := List.drop_eq_getElem_cons (by omega)
    have key : ∀ e m : Nat, m + e = (L[n]).length → Ev (fun k => seinelaw09_stands.l1 k L b (n : Int) (m : Int)) (decide (b ∈ (L[n]).drop m) || stB (L.drop (n + 1)) b) := by
      intro e
      induction e with
      | zero =>
        intro m hm'
        refine Ev.succ ?_
        simp only [seinelaw09_stands.l1, if_pos (show (0 : Int) ≤ (n : Int) by omega), if_pos (show (n : Int) < (L.length : Int) by omega), hr, if_neg (show ¬ (m : Int) < ((L[n]).length : Int) by omega), w64 (show -9223372036854775808 ≤ (n : Int) + 1 by omega) (show (n : Int) + 1 ≤ 9223372036854775807 by omega)]
        rw [List.drop_of_length_le (by omega)]
        simpa using ih1
      | succ e ih2 =>
        intro m hm'
        refine Ev.succ ?_
        simp only [seinelaw09_stands.l1, if_pos (show (0 : Int) ≤ (n : Int) by omega), if_pos (show (n : Int) < (L.length : Int) by omega), hr, if_pos (show (m : Int) < ((L[n]).length : Int) by omega), if_pos (show (0 : Int) ≤ (m : Int) by omega), rd_nat L[n] m (by omega), w64 (show -9223372036854775808 ≤ (m : Int) + 1 by omega) (show (m : Int) + 1 ≤ 9223372036854775807 by omega)]
        have hd2 : (L[n]).drop m = (L[n])[m] :: (L[n]).drop (m + 1) := List.drop_eq_getElem_cons (by omega)
        by_cases e1 : (L[n])[m] = b
        · simp only [if_pos e1]
          rw [hd2]
          exact Ev.const (by simp [e1])
        · simp only [if_neg e1]
          have h3 := ih2 (m + 1) (by omega)
          rw [hd2]
          have e2 : ¬ b = (L[n])[m] := fun h => e1 h.symm
          have e3 : decide (b ∈ (L[n])[m] :: (L[n]).drop (m + 1)) = decide (b ∈ (L[n]).drop (m + 1)) := by
            rw [decide_eq_decide, List.mem_cons]
            exact ⟨fun h => h.resolve_left e2, Or.inr⟩
          rw [e3]
          exact h3
    have h0 := key (L[n]).length 0 (by omega)
    rw [hd, stB_cons]
    simpa using h0
theorem stands_tot (L : List (List Int)) (hl : L.length < 8796093022208) (hm : ∀ x ∈ L, x.length ≤ 9223372036854775807) (b : Int) : ∃ k, seinelaw09_stands.f k L b = some (stB L b) := by
  have h := stands_loop L hl hm b L.length 0 (by omega)
  exact Ev.rounds (g := fun k => seinelaw09_stands.f k L b) (r := stB L b) h
end Go.Proofs.Ytongadhccpfpeaa.Base9
