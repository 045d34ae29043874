/- A text that is scanned: what Text, At and Len do, of any meter or none. -/
import Derived.Test.YtkmocajeknafbaaMetB
namespace Go.Proofs.Ytkmocajeknafbaa.Met
open Go Go.RowKit Go.Proofs Go.Proofs.YtkmocajeknafbaaW.PrintWords Go.Proofs.YtkmocajeknafbaaW.PrintMore
set_option linter.unusedVariables false
set_option linter.unusedSimpArgs false
/-- a text: its meter, and a row of its own; both lie from base on, the meter does not -/
structure TxtAt (w : World) (gt : Nat) (M : Option Nat) (base : Nat) (A : Option Addr) (cp : Nat) (l : List Int) : Prop where
  box : w.heap[gt]? = some (.cells #[.pointer (mp M), .slice A l.length cp] 61 (0, 0))
  row : Kd.R (Kd.int .u8) 5 w base (fun k => base ≤ k) (.slice A l.length cp) l
  old : ∀ k, M = some k → k < base
  new : base ≤ gt
theorem TxtAt.kept {w w' : World} {gt base : Nat} {M : Option Nat} {A : Option Addr} {cp : Nat} {l : List Int} {S : Nat → Prop} (h : TxtAt w gt M base A cp l) (hk : Kept w w' S) (hS : ∀ k, base ≤ k → k < w.heap.size → ¬ S k) : TxtAt w' gt M base A cp l :=
  ⟨blk_kept h.box hk (hS gt h.new (blk_lt h.box)), Kd.R_mono (Kd.R_kept (Kd.R_bound h.row) hk (fun k h => hS k h.2.1 h.2.2.1)) (fun k h => h.1), h.old, h.new⟩
theorem TxtAt.below {w w' : World} {gt base : Nat} {M : Option Nat} {A : Option Addr} {cp : Nat} {l : List Int} (h : TxtAt w gt M base A cp l) (hb : Below w.heap.size w w') : TxtAt w' gt M base A cp l := h.kept (Kept.of_below hb (fun _ => False)) (fun _ _ _ h => h)
theorem TxtAt.put {w w' : World} {gt base : Nat} {M : Option Nat} {A : Option Addr} {cp : Nat} {l : List Int} {a b c d : Int} (h : TxtAt w gt M base A cp l) (hp : Put w w' M a b c d) : TxtAt w' gt M base A cp l := h.kept hp.kept (fun k hk _ e => by have := h.old k e; omega)
set_option maxHeartbeats 8000000 in
set_option maxRecDepth 100000 in
theorem text_calls (M : Option Nat) (A0 : Option Addr) (c0 : Nat) (l : List Int) (w : World) (hr : Kd.C (Kd.int .u8) w A0 l.length l) (hc : l.length ≤ c0) (hl : l.length < 140737488355328) (hM : ∀ k, M = some k → k < w.heap.size) :
    Calls Try.prog 10 #[.pointer (mp M), .slice A0 l.length c0] w fun e w' => ∃ gt A cp, e = .returned (.pointer (some ⟨gt, 0, none⟩)) ∧ TxtAt w' gt M w.heap.size A cp l ∧ Below w.heap.size w w' := by
  have HR := Aside0.mk hr
  have HC := Aside0.mk hc
  have HL := Aside0.mk hl
  have HM := Aside0.mk hM
  have hu := Try.underlying61
  clear hr hc hl hM
  go_enter Try.func10, Try.ntmps10
  go_wp2_with fail
  refine (clone_calls A0 c0 l l.length w HR.out HC.out rfl HL.out).mono ?_
  rintro e w1 ⟨v, rfl, hr, hb⟩
  obtain ⟨A, c, hv⟩ := Kd.R_slice hr
  subst hv
  have HR1 := Aside0.mk hr
  have HB1 := Aside0.mk hb
  clear hr hb
  go_wp2
  go_ret
  refine ⟨_, A, c, rfl, ⟨blk_new _ _, ?_, HM.out, HB1.out.size⟩, below_alloc HB1.out _⟩
  exact Kd.R_mono (Kd.R_alloc (Kd.R_bound HR1.out) _) (fun k hk => hk.2.1)
set_option maxHeartbeats 8000000 in
set_option maxRecDepth 100000 in
theorem len_calls {w : World} {gt base : Nat} {M : Option Nat} {A : Option Addr} {cp : Nat} {l : List Int} (h : TxtAt w gt M base A cp l) :
    Calls Try.prog 13 #[.pointer (some ⟨gt, 0, none⟩)] w fun e w' => e = .returned (.int .i64 (l.length : Int)) ∧ Below w.heap.size w w' := by
  have k1 : w.cell? ⟨gt, 1, none⟩ = some (.slice A l.length cp) := (blk_cell h.box 1).trans rfl
  have hu := Try.underlying61
  clear h
  go_enter Try.func13, Try.ntmps13
  go_wp2
  go_ret
  exact ⟨rfl, Below.refl _ _⟩
set_option maxHeartbeats 8000000 in
set_option maxRecDepth 100000 in
theorem len_none (w : World) :
    Calls Try.prog 13 #[.pointer none] w fun e w' => e = .returned (.int .i64 0) ∧ Below w.heap.size w w' := by
  go_enter Try.func13, Try.ntmps13
  go_wp2
  go_ret
  exact ⟨rfl, Below.refl _ _⟩
set_option maxHeartbeats 8000000 in
set_option maxRecDepth 100000 in
theorem at_in {w : World} {gt base : Nat} {M : Option Nat} {A : Option Addr} {cp : Nat} {l : List Int} (a b c d : Int) (i : Int) (h : TxtAt w gt M base A cp l) (hM : MAt w M a b c d) (h0 : 0 ≤ i) (h1 : i < (l.length : Int)) (ha0 : 0 ≤ a) (ha1 : a ≤ 1000000000000) :
    Calls Try.prog 11 #[.pointer (some ⟨gt, 0, none⟩), .int .i64 i] w fun e w' => e = .returned (.int .i64 (wrap64 (rd l i))) ∧ TxtAt w' gt M base A cp l ∧ Put w w' M (a + 1) b c d := by
  have HT := Aside0.mk h
  have HM := Aside0.mk hM
  have d1 : decide (i < 0) = false := decide_eq_false (by omega)
  have d2 : decide (i ≥ (l.length : Int)) = false := decide_eq_false (by omega)
  have d3 : decide ((l.length : Int) ≤ i) = false := decide_eq_false (by omega)
  have hu := Try.underlying61
  clear h hM
  go_enter Try.func11, Try.ntmps11
  go_wp2_with fail
  refine (len_calls HT.out).mono ?_
  rintro e w1 ⟨rfl, hb⟩
  have HT1 := Aside0.mk (HT.out.below hb)
  have HM1 := Aside0.mk (HM.out.below hb)
  have HB1 := Aside0.mk hb
  have k0 : w1.cell? ⟨gt, 0, none⟩ = some (.pointer (mp M)) := (blk_cell HT1.out.box 0).trans rfl
  clear hb
  go_wp2_with fail
  refine (count_any M a b c d _ HM1.out).mono ?_
  rintro e w3 ⟨g, T, x, rfl, hC⟩
  clear k0
  obtain ⟨v, hx, k0, h0', h1'⟩ := hC.at_ 0 (by decide)
  have f0 := blk_frozen hC.blk 0
  have hv0 : 0 ≤ v := by
    by_cases hm : M = none
    · rw [h0' hm]; exact Int.le_refl _
    · have := h1' hm; simp at this; omega
  have hv1 : v ≤ 1000000000000 := by
    by_cases hm : M = none
    · rw [h0' hm]; omega
    · have := h1' hm; simp at this; omega
  have hP := hC.put 0 (v + 1) (a + 1) b c d (fun hm => by have := h1' hm; simp at this; rw [this]; rfl)
  have HT3 := Aside0.mk (HT1.out.put hP)
  have HP := Aside0.mk (show Put w _ M (a + 1) b c d from ⟨hP.met, Kept.then_ (Kept.of_below HB1.out _) hP.kept (fun k hk => Or.inl hk), fun B hB hBM => Below.trans (HB1.out.mono hB) (hP.bel B (Nat.le_trans hB HB1.out.size) hBM)⟩)
  clear hx h0' h1' hP hC
  have q1 : (w3.setCell ⟨g, 0, none⟩ (.int .i64 (v + 1))).cell? ⟨gt, 1, none⟩ = some (.slice A l.length cp) := (blk_cell HT3.out.box 1).trans rfl
  obtain ⟨ad, hA, q2⟩ := Kd.at_int (Kd.R_reads' HT3.out.row).2.2 i h0 h1
  subst hA
  go_wp2
  go_ret
  exact ⟨rfl, HT3.out, HP.out⟩
set_option maxHeartbeats 8000000 in
set_option maxRecDepth 100000 in
theorem at_out {w : World} {gt base : Nat} {M : Option Nat} {A : Option Addr} {cp : Nat} {l : List Int} (i : Int) (h : TxtAt w gt M base A cp l) (h0 : i < 0 ∨ (l.length : Int) ≤ i) :
    Calls Try.prog 11 #[.pointer (some ⟨gt, 0, none⟩), .int .i64 i] w fun e w' => e = .returned (.int .i64 (-1)) ∧ Below w.heap.size w w' := by
  have HT := Aside0.mk h
  clear h
  by_cases h1 : i < 0
  · have d1 : decide (i < 0) = true := decide_eq_true h1
    go_enter Try.func11, Try.ntmps11
    go_wp2
    go_ret
    exact ⟨rfl, Below.refl _ _⟩
  · have d1 : decide (i < 0) = false := decide_eq_false h1
    have d2 : decide (i ≥ (l.length : Int)) = true := decide_eq_true (by omega)
    go_enter Try.func11, Try.ntmps11
    go_wp2_with fail
    refine (len_calls HT.out).mono ?_
    rintro e w1 ⟨rfl, hb⟩
    go_wp2
    go_ret
    exact ⟨rfl, hb⟩
set_option maxHeartbeats 8000000 in
set_option maxRecDepth 100000 in
theorem at_none (i : Int) (w : World) :
    Calls Try.prog 11 #[.pointer none, .int .i64 i] w fun e w' => e = .returned (.int .i64 (-1)) ∧ Below w.heap.size w w' := by
  by_cases h1 : i < 0
  · have d1 : decide (i < 0) = true := decide_eq_true h1
    go_enter Try.func11, Try.ntmps11
    go_wp2
    go_ret
    exact ⟨rfl, Below.refl _ _⟩
  · have d1 : decide (i < 0) = false := decide_eq_false h1
    have d2 : decide (i ≥ 0) = true := decide_eq_true (by omega)
    go_enter Try.func11, Try.ntmps11
    go_wp2_with fail
    refine (len_none _).mono ?_
    rintro e w1 ⟨rfl, hb⟩
    go_wp2
    go_ret
    exact ⟨rfl, hb⟩
end Go.Proofs.Ytkmocajeknafbaa.Met
