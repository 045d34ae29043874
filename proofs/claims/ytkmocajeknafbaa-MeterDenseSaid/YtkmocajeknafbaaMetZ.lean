/- Look, over a dense table, counted; the document's Dense. -/
import Derived.Test.YtkmocajeknafbaaMetX
namespace Go.Proofs.Ytkmocajeknafbaa.Met
open Go Go.RowKit Go.Proofs Go.Proofs.YtkmocajeknafbaaW.PrintWords Go.Proofs.YtkmocajeknafbaaW.PrintMore Go.Proofs.Ytkmocajeknafbaa.Mp Go.Maps
set_option linter.unusedVariables false
set_option linter.unusedSimpArgs false
set_option maxHeartbeats 8000000 in
set_option maxRecDepth 100000 in
theorem dlook_calls {w : World} {gt base top gc gw gn : Nat} {M : Option Nat} {C : List Int} {wd : Int} {A : Option Addr} {cp : Nat} {nx : List Int} (a b c d : Int) (h : DenAt w gt M base top gc gw gn C wd A cp nx) (hM : MAt w M a b c d) (hC : C.length = 256) (hl : nx.length ≤ 1000000) (s y : Int) (hy0 : 0 ≤ y) (hy1 : y ≤ 255) (hb0 : 0 ≤ b) (hb1 : b ≤ 1000000000000) :
    Calls Try.prog 15 #[.pointer (some ⟨gt, 0, none⟩), .int .i64 s, .int .u8 y] w fun e w' => e = .returned (.int .i64 (dn (rd C y) wd nx s)) ∧ DenAt w' gt M base top gc gw gn C wd A cp nx ∧ Put w w' M a (b + 1) c d := by
  have HT := Aside0.mk h
  have HM := Aside0.mk hM
  have HC := Aside0.mk hC
  have HL := Aside0.mk hl
  have HY0 := Aside0.mk hy0
  have HY1 := Aside0.mk hy1
  have hu := Try.underlying70
  have hue := Try.underlying66
  have k0 : w.cell? ⟨gt, 0, none⟩ = some (.pointer (mp M)) := (blk_cell h.box 0).trans rfl
  clear h hM hC hl hy0 hy1
  go_enter Try.func15, Try.ntmps15
  go_wp2_with fail
  refine (count_any M a b c d _ HM.out).mono ?_
  rintro e w3 ⟨g, T, x, rfl, hK⟩
  clear k0
  obtain ⟨v, hx, k0, h0', h1'⟩ := hK.at_ 1 (by decide)
  have f0 := blk_frozen hK.blk 1
  have hv0 : 0 ≤ v := by
    by_cases hm : M = none
    · rw [h0' hm]; exact Int.le_refl _
    · have := h1' hm; simp at this; omega
  have hv1 : v ≤ 1000000000000 := by
    by_cases hm : M = none
    · rw [h0' hm]; omega
    · have := h1' hm; simp at this; omega
  have hP := hK.put 1 (v + 1) a (b + 1) c d (fun hm => by have := h1' hm; simp at this; rw [this]; rfl)
  have HT3 := Aside0.mk (HT.out.put hP)
  have HP := Aside0.mk hP
  clear hx h0' h1' hP hK
  have q1 : (w3.setCell ⟨g, 1, none⟩ (.int .i64 (v + 1))).cell? ⟨gt, 1, none⟩ = some (.func (.func 25) #[] #[.pointer (some ⟨gc, 0, none⟩), .pointer (some ⟨gw, 0, none⟩), .pointer (some ⟨gn, 0, none⟩)]) := (blk_cell HT3.out.box 1).trans rfl
  go_wp2_with fail
  refine (dlook1_calls HT3.out HC.out HL.out s y HY0.out HY1.out).mono ?_
  rintro e w5 ⟨rfl, hb5⟩
  have HT5 := Aside0.mk (HT3.out.below hb5)
  have HP5 := Aside0.mk (HP.out.below hb5)
  clear hb5
  go_wp2
  go_ret
  exact ⟨rfl, HT5.out, HP5.out⟩
theorem wr_in {x : Int} (h0 : -1000000000000 ≤ x) (h1 : x ≤ 1000000000000) : wrap64 x = x := by unfold wrap64; omega
theorem ms_to {n t : Nat} {x : Int} (h : n - (t + 1) < n - t) (hx : x = ((t + 1 : Nat) : Int)) : n - (intOf (.int .i64 x)).toNat < n - (intOf (.int .i64 (t : Int))).toNat := by
  subst hx
  simp only [intOf, Int.toNat_natCast]
  exact h
theorem dn_at (k wd : Int) (nx : List Int) (s t : Int) (h0 : 0 ≤ s) (h1 : 0 ≤ k) (h2 : k < wd) (ht : t ≤ s) (hx : t = s ∨ (nx.length : Int) ≤ t * wd) : dn k wd nx s = if (nx.length : Int) - t * wd ≤ k then -1 else rd nx (t * wd + k) := by
  rcases hx with rfl | hx
  · by_cases h3 : (nx.length : Int) ≤ k
    · have : 0 ≤ t * wd := Int.mul_nonneg h0 (by omega)
      rw [dn_neg (by omega), if_pos (by omega)]
    · have hf := dn_fit (n := (nx.length : Int)) h0 h1 h2 (by omega)
      by_cases h4 : (nx.length : Int) - t * wd ≤ k
      · rw [if_pos h4, dn_neg]
        have : ¬ (t ≤ ((nx.length : Int) - 1 - k) / wd) := fun h => by have := hf.mp h; omega
        omega
      · rw [if_neg h4, dn_pos]
        have : t ≤ ((nx.length : Int) - 1 - k) / wd := hf.mpr (by omega)
        omega
  · rw [if_pos (by omega)]
    by_cases h3 : (nx.length : Int) ≤ k
    · rw [dn_neg (by omega)]
    · have hf := dn_fit (n := (nx.length : Int)) h0 h1 h2 (by omega)
      have hm : t * wd ≤ s * wd := Int.mul_le_mul_of_nonneg_right ht (by omega)
      rw [dn_neg]
      have : ¬ (s ≤ ((nx.length : Int) - 1 - k) / wd) := fun h => by have := hf.mp h; omega
      omega
set_option maxHeartbeats 8000000 in
set_option maxRecDepth 100000 in
theorem refdn_calls (Ac An : Option Addr) (cc cn : Nat) (C nx : List Int) (wd s c : Int) (n : Nat) (w : World) (hrc : Kd.C (Kd.int .i64) w Ac C.length C) (hrn : Kd.C (Kd.int .i64) w An nx.length nx) (hC : C.length = 256) (hn : n = 256) (hl : nx.length ≤ 1000000) (hc0 : 0 ≤ c) (hc1 : c ≤ 255) :
    Calls Try.prog 20 #[.slice Ac n cc, .int .i64 wd, .slice An nx.length cn, .int .i64 s, .int .u8 c] w fun e w' => e = .returned (.int .i64 (dn (rd C c) wd nx s)) ∧ Below w.heap.size w w' := by
  subst hn
  have HRN := Aside0.mk hrn
  have HNL := Aside0.mk hl
  have hc2 : c < 256 := by omega
  obtain ⟨ad, hA, hx⟩ := Kd.at_int hrc c hc0 (by omega)
  subst hA
  generalize rd C c = k at hx
  clear hrc hrn hl hC
  by_cases h0 : s < 0
  · have c0 : decide (s < 0) = true := decide_eq_true h0
    rw [dn_neg (Or.inl h0)]
    clear h0
    go_enter Try.func20, Try.ntmps20
    go_wp2
    go_ret
    exact ⟨rfl, Below.refl _ _⟩
  · have c0 : decide (s < 0) = false := decide_eq_false h0
    by_cases h1 : k < 0
    · have c1 : decide (k < 0) = true := decide_eq_true h1
      rw [dn_neg (Or.inr (Or.inl h1))]
      clear h0 h1
      go_enter Try.func20, Try.ntmps20
      go_wp2
      go_ret
      exact ⟨rfl, Below.refl _ _⟩
    · have c1 : decide (k < 0) = false := decide_eq_false h1
      by_cases h2 : wd ≤ k
      · have c2 : decide (wd ≤ k) = true := decide_eq_true h2
        rw [dn_neg (Or.inr (Or.inr (Or.inl h2)))]
        clear h0 h1 h2
        go_enter Try.func20, Try.ntmps20
        go_wp2
        go_ret
        exact ⟨rfl, Below.refl _ _⟩
      · have c2 : decide (wd ≤ k) = false := decide_eq_false h2
        have HD := Aside0.mk (fun t => dn_at k wd nx s t (by omega) (by omega) (by omega))
        have HK := Aside0.mk (show 0 ≤ k ∧ k < wd ∧ 0 ≤ s by omega)
        clear h0 h1 h2
        go_enter Try.func20, Try.ntmps20
        go_wp2
        go_loop [11, 12] (fun v11 v12 => ∃ t : Nat, v12 = .int .i64 (t : Int) ∧ v11 = .int .i64 ((t : Int) * wd) ∧ Aside0 ((t : Int) ≤ s) ∧ Aside0 (t = 0 ∨ ((t : Int) - 1) * wd < (nx.length : Int) ∧ wd ≤ (nx.length : Int))) (fun _ v => s.toNat - (intOf v).toNat)
        case atStart => exact ⟨0, rfl, by rw [show ((0 : Nat) : Int) * wd = 0 from Int.zero_mul _], ⟨HK.out.2.2⟩, ⟨Or.inl rfl⟩⟩
        case round =>
          obtain ⟨t, rfl, rfl, HT, HB⟩ := hrel
          have hk := HK.out
          have hnl := HNL.out
          have ht := HT.out
          have hb := HB.out
          have e1 : ((t : Int) - 1) * wd = (t : Int) * wd - wd := by rw [Int.sub_mul, Int.one_mul]
          have e2 : ((t + 1 : Nat) : Int) * wd = (t : Int) * wd + wd := by rw [Int.natCast_add, Int.add_mul]; simp
          have hp0 : 0 ≤ (t : Int) * wd := Int.mul_nonneg (by omega) (by omega)
          have htw : (t : Int) ≤ (t : Int) * wd := by
            have := Int.mul_le_mul_of_nonneg_left (show (1 : Int) ≤ wd by omega) (show (0 : Int) ≤ (t : Int) by omega)
            omega
          have hP : (t : Int) * wd ≤ 2000000 := by
            rcases hb with rfl | hb
            · simp
            · omega
          have HDT := Aside0.mk (HD.out (t : Int) ht)
          have HE2 := Aside0.mk e2
          generalize hP' : (t : Int) * wd = P at *
          have hw2 : wrap64 ((t : Int) + 1) = ((t + 1 : Nat) : Int) := wr_in (by omega) (by omega)
          have hw3 : wrap64 ((nx.length : Int) - P) = (nx.length : Int) - P := wr_in (by omega) (by omega)
          have HW2 := Aside0.mk hw2
          have HW3 := Aside0.mk hw3
          have HP' := Aside0.mk hP'
          have HE1 := Aside0.mk e1
          clear hw2 hw3 hP' e1 e2
          by_cases h1 : (t : Int) < s
          · have d1 : decide ((t : Int) < s) = true := decide_eq_true h1
            by_cases h2 : P < (nx.length : Int)
            · have d2 : decide (P < (nx.length : Int)) = true := decide_eq_true h2
              by_cases h3 : (nx.length : Int) < wd
              · have d3 : decide ((nx.length : Int) < wd) = true := decide_eq_true h3
                have hv : dn k wd nx s = -1 := by
                  have := HD.out 1 (by omega) (Or.inr (by omega))
                  rw [this, if_pos (by omega)]
                have HV := Aside0.mk hv
                clear h1 h2 h3 ht hb hv
                go_wp2
                go_ret
                exact ⟨congrArg (fun x => Ending.returned (.int .i64 x)) HV.out.symm, Below.refl _ _⟩
              · have d3 : decide ((nx.length : Int) < wd) = false := decide_eq_false h3
                have HWR := Aside0.mk (show wrap64 (P + wd) = P + wd from wr_in (by omega) (by omega))
                have HN := Aside0.mk (show ((t + 1 : Nat) : Int) ≤ s ∧ (((t + 1 : Nat) : Int) - 1) * wd < (nx.length : Int) ∧ wd ≤ (nx.length : Int) by
                  refine ⟨by omega, ?_, by omega⟩
                  rw [show ((t + 1 : Nat) : Int) - 1 = (t : Int) by omega, HP'.out]
                  exact h2)
                have HS := Aside0.mk (show s.toNat - (t + 1) < s.toNat - t by omega)
                clear h1 h2 h3 ht hb
                go_wp2
                go_round
                case rel => exact ⟨t + 1, by first | exact congrArg (Value.int .i64) HW2.out | rfl, by first | (rw [HE2.out]; done) | (rw [HE2.out, HWR.out]) | (rw [HE2.out]; exact congrArg (Value.int .i64) HWR.out), ⟨HN.out.1⟩, ⟨Or.inr HN.out.2⟩⟩
                case measure => first | exact ms_to HS.out HW2.out | exact ms_to HS.out (by simp)
            · have d2 : decide (P < (nx.length : Int)) = false := decide_eq_false h2
              have hv := HDT.out (Or.inr (by omega))
              rw [if_pos (by omega)] at hv
              have d3 : decide ((nx.length : Int) - P ≤ k) = true := decide_eq_true (by omega)
              have d4 := HW3.out
              have HV := Aside0.mk hv
              clear h1 h2 ht hb hv
              go_wp2
              go_ret
              exact ⟨congrArg (fun x => Ending.returned (.int .i64 x)) HV.out.symm, Below.refl _ _⟩
          · have d1 : decide ((t : Int) < s) = false := decide_eq_false h1
            have hv := HDT.out (Or.inl (by omega))
            have d4 := HW3.out
            by_cases h5 : (nx.length : Int) - P ≤ k
            · rw [if_pos h5] at hv
              have d3 : decide ((nx.length : Int) - P ≤ k) = true := decide_eq_true h5
              have HV := Aside0.mk hv
              clear h1 h5 ht hb hv
              go_wp2
              go_ret
              exact ⟨congrArg (fun x => Ending.returned (.int .i64 x)) HV.out.symm, Below.refl _ _⟩
            · rw [if_neg h5] at hv
              have d3 : decide ((nx.length : Int) - P ≤ k) = false := decide_eq_false h5
              have i0 : 0 ≤ P + k := by omega
              have i1 : P + k < (nx.length : Int) := by omega
              obtain ⟨ad2, hA2, hx2⟩ := Kd.at_int HRN.out (P + k) i0 i1
              subst hA2
              have HV := Aside0.mk hv
              clear h1 h5 ht hb hv
              go_wp2
              go_ret
              exact ⟨congrArg (fun x => Ending.returned (.int .i64 x)) HV.out.symm, Below.refl _ _⟩
end Go.Proofs.Ytkmocajeknafbaa.Met
