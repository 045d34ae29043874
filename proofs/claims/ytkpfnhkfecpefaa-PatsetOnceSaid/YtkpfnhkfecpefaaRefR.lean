/- What the document's functions of layer 4 answer, of the same patterns. -/
import Derived.Test.YtkpfnhkfecpefaaRefQ
namespace Go.Proofs.Ytkpfnhkfecpefaa.Ref
open Go Go.RowKit Go.Proofs Go.Proofs.YtkpfnhkfecpefaaW.PrintWords Go.Proofs.YtkpfnhkfecpefaaW.PrintLast Go.Proofs.YtkpfnhkfecpefaaW.PrintMore Go.Proofs.Ytkpfnhkfecpefaa.Pat Go.Proofs.Ytkpfnhkfecpefaa.Lin Go.Proofs.Ytkpfnhkfecpefaa.Aid
set_option linter.unusedVariables false
set_option linter.unusedSimpArgs false
theorem size_loop (l : List (List Int)) (e : Bool) (hl : l.length ≤ 100000) (ht : totN l ≤ 1000000) (d : Nat) : ∀ n : Nat, n + d = l.length →
    Ev (fun k => seineref04_Size.l0 k ((totN (l.take n) : Nat) : Int) (n : Int) (l.map strOfNums) e) ((totN l : Nat) : Int) := by
  induction d with
  | zero =>
    intro n hn
    refine Ev.succ ?_
    simp only [seineref04_Size.l0, List.length_map, if_neg (show ¬ (n : Int) < (l.length : Int) by omega)]
    rw [List.take_of_length_le (by omega)]
    exact Ev.const rfl
  | succ d ih =>
    intro n hn
    have hlt : n < l.length := by omega
    have hi := ih (n + 1) (by omega)
    have h1 := totN_take l n hlt
    have h2 := totN_take_le l (n + 1)
    refine Ev.succ ?_
    have hr : rdOf ByteArray.empty (l.map strOfNums) (n : Int) = strOfNums l[n] := by rw [rdOf_nat _ n (by rw [List.length_map]; exact hlt), List.getElem_map]
    simp only [seineref04_Size.l0, List.length_map, if_pos (show (n : Int) < (l.length : Int) by omega), if_pos (show (0 : Int) ≤ (n : Int) by omega), hr, strOfNums_size, w64 (show -9223372036854775808 ≤ (n : Int) + 1 by omega) (show (n : Int) + 1 ≤ 9223372036854775807 by omega), w64 (show -9223372036854775808 ≤ ((totN (l.take n) : Nat) : Int) + (l[n].length : Int) by omega) (show ((totN (l.take n) : Nat) : Int) + (l[n].length : Int) ≤ 9223372036854775807 by omega)]
    rw [h1, Int.natCast_add] at hi
    exact hi
theorem ref_size (l : List (List Int)) (e : Bool) (hl : l.length ≤ 100000) (ht : totN l ≤ 1000000) : Ev (fun k => seineref04_Size.f k (l.map strOfNums) e) ((totN l : Nat) : Int) := size_loop l e hl ht l.length 0 (by omega)
theorem least_take_pos (l : List (List Int)) (hp : ∀ p ∈ l, 0 < p.length) (n : Nat) (h0 : 0 < n) (h : n ≤ l.length) : 0 < leastN (l.take n) := by
  have := least_facts (l.take n) (fun p hp2 => hp p (List.mem_of_mem_take hp2))
  rw [← this, List.length_take]
  omega
theorem least_loop (l : List (List Int)) (e : Bool) (hl : l.length ≤ 100000) (hp : ∀ p ∈ l, 0 < p.length) (d : Nat) : ∀ n : Nat, n + d = l.length →
    Ev (fun k => seineref04_Least.l0 k ((leastN (l.take n) : Nat) : Int) (n : Int) (l.map strOfNums) e) ((leastN l : Nat) : Int) := by
  induction d with
  | zero =>
    intro n hn
    refine Ev.succ ?_
    simp only [seineref04_Least.l0, List.length_map, if_neg (show ¬ (n : Int) < (l.length : Int) by omega)]
    rw [List.take_of_length_le (by omega)]
    exact Ev.const rfl
  | succ d ih =>
    intro n hn
    have hlt : n < l.length := by omega
    have hi := ih (n + 1) (by omega)
    rw [leastN_take l n hlt] at hi
    refine Ev.succ ?_
    have hr : rdOf ByteArray.empty (l.map strOfNums) (n : Int) = strOfNums l[n] := by rw [rdOf_nat _ n (by rw [List.length_map]; exact hlt), List.getElem_map]
    simp only [seineref04_Least.l0, List.length_map, if_pos (show (n : Int) < (l.length : Int) by omega), if_pos (show (0 : Int) ≤ (n : Int) by omega), hr, strOfNums_size, w64 (show -9223372036854775808 ≤ (n : Int) + 1 by omega) (show (n : Int) + 1 ≤ 9223372036854775807 by omega)]
    unfold leastU at hi
    by_cases h0 : n = 0
    · subst h0
      simp only [if_pos (show ((0 : Nat) : Int) = 0 from rfl)]
      have hz : leastN (l.take 0) = 0 := rfl
      rw [if_pos (Or.inl hz)] at hi
      exact hi
    · have hpos := least_take_pos l hp n (by omega) (by omega)
      simp only [if_neg (show ¬ (n : Int) = 0 by omega)]
      by_cases h1 : l[n].length < leastN (l.take n)
      · simp only [if_pos (show (l[n].length : Int) < ((leastN (l.take n) : Nat) : Int) by omega)]
        rw [if_pos (Or.inr h1)] at hi
        exact hi
      · simp only [if_neg (show ¬ (l[n].length : Int) < ((leastN (l.take n) : Nat) : Int) by omega)]
        rw [if_neg (by omega)] at hi
        exact hi
theorem ref_least (l : List (List Int)) (e : Bool) (hl : l.length ≤ 100000) (hp : ∀ p ∈ l, 0 < p.length) : Ev (fun k => seineref04_Least.f k (l.map strOfNums) e) ((leastN l : Nat) : Int) := least_loop l e hl hp l.length 0 (by omega)
/-- a document's set as it lies -/
structure RefC (w : World) (v : Value) (s : PS) : Prop where
  lies : ∃ A c, v = .agg #[.slice A s.l.length c, .bool s.e] ∧ s.l.length ≤ c ∧ Kd.C Kd.string w A s.l.length (s.l.map strOfNums)
theorem RefC.below {w w' : World} {v : Value} {s : PS} (h : RefC w v s) (hb : Below w.heap.size w w') : RefC w' v s := by
  obtain ⟨A, c, e, hc, hC⟩ := h.lies
  exact ⟨⟨A, c, e, hc, Kd.C_below hC hb⟩⟩
theorem refC_of {w : World} {base : Nat} {ok : Nat → Prop} {v : Value} {s : PS} (h : Kd.R Kd.string 9 w base ok v (s.l.map strOfNums)) : RefC w (.agg #[v, .bool s.e]) s := by
  obtain ⟨A, c, rfl, hc, hC⟩ := Kd.R_reads h
  rw [List.length_map] at hc hC ⊢
  exact ⟨⟨A, c, rfl, hc, hC⟩⟩
theorem refsize_calls {w : World} {v : Value} {s : PS} (h : RefC w v s) (hl : s.l.length ≤ 100000) (ht : totN s.l ≤ 1000000) :
    Calls Try.prog 26 #[v] w fun e w' => e = .returned (.int .i64 ((totN s.l : Nat) : Int)) ∧ Below w.heap.size w w' := by
  obtain ⟨A, c, rfl, hc, hC⟩ := h.lies
  obtain ⟨k, hk⟩ := (ref_size s.l s.e hl ht).rounds
  have := seineref04_Size.calls k A c (s.l.map strOfNums) s.e _ w (by rw [List.length_map]; exact hC) (by rw [List.length_map]; exact hc) hk
  rwa [List.length_map] at this
theorem refleast_calls {w : World} {v : Value} {s : PS} (h : RefC w v s) (hl : s.l.length ≤ 100000) (hp : ∀ p ∈ s.l, 0 < p.length) :
    Calls Try.prog 27 #[v] w fun e w' => e = .returned (.int .i64 ((leastN s.l : Nat) : Int)) ∧ Below w.heap.size w w' := by
  obtain ⟨A, c, rfl, hc, hC⟩ := h.lies
  obtain ⟨k, hk⟩ := (ref_least s.l s.e hl hp).rounds
  have := seineref04_Least.calls k A c (s.l.map strOfNums) s.e _ w (by rw [List.length_map]; exact hC) (by rw [List.length_map]; exact hc) hk
  rwa [List.length_map] at this
theorem refload_calls (l : List Int) (fd : Bool) (hb : Byt l) (w : World) :
    Calls Try.prog 11 #[.string (strOfNums l), .bool fd] w fun e w' => ∃ v, e = .returned (.tuple #[v, .int .i64 (loadE l)]) ∧ RefC w' v (loadP l fd) ∧ Below w.heap.size w w' := by
  obtain ⟨k, hk⟩ := (ref_load l fd hb).rounds
  refine (seineref04_Load.calls k (strOfNums l) fd _ _ _ w hk).mono ?_
  rintro e w' ⟨v, rfl, hr, hb'⟩
  exact ⟨_, rfl, refC_of hr, hb'⟩
theorem refof_calls (L : List (List Int)) (A : Option Addr) (c : Nat) (w : World) (hC : Kd.C Kd.string w A L.length (L.map strOfNums)) (hc : L.length ≤ c) (hl : L.length ≤ 100000) :
    Calls Try.prog 17 #[.slice A L.length c] w fun e w' => ∃ v, e = .returned v ∧ RefC w' v (ofP L) ∧ Below w.heap.size w w' := by
  obtain ⟨k, hk⟩ := (ref_of L hl).rounds
  have := seineref04_Of.calls k A c (L.map strOfNums) _ _ w (by rw [List.length_map]; exact hC) (by rw [List.length_map]; exact hc) hk
  rw [List.length_map] at this
  refine this.mono ?_
  rintro e w' ⟨v, rfl, hr, hb'⟩
  exact ⟨_, rfl, refC_of hr, hb'⟩
theorem refin_calls (l : List (List Int)) (b : List Int) (A : Option Addr) (c : Nat) (w : World) (hC : Kd.C Kd.string w A l.length (l.map strOfNums)) (hc : l.length ≤ c) (hl : l.length ≤ 1000000) :
    Calls Try.prog 12 #[.slice A l.length c, .string (strOfNums b)] w fun e w' => e = .returned (.bool (inP l b)) ∧ Drawn0 w w' := by
  obtain ⟨k, hk⟩ := (ref_in l b hl).rounds
  have := seineref04_In.calls k A c (l.map strOfNums) (strOfNums b) _ w (by rw [List.length_map]; exact hC) (by rw [List.length_map]; exact hc) hk
  rwa [List.length_map] at this
theorem refbytes_calls (l : List Int) (hl : l.length ≤ 2000) (hb : Byt l) (w : World) :
    Calls Try.prog 19 #[.string (strOfNums l)] w fun e w' => e = .returned (.string (strOfNums (l.map byteI))) ∧ Below w.heap.size w w' := by
  obtain ⟨k, hk⟩ := (ref_bytes l hl hb).rounds
  exact seineref01_Bytes.calls k _ _ w hk
end Go.Proofs.Ytkpfnhkfecpefaa.Ref
