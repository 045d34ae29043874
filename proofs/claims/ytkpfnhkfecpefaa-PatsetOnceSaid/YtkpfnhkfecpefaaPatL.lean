/- PatsetLoads: the patterns of any file are the document's. -/
import Derived.Test.YtkpfnhkfecpefaaPatS
namespace Go.Proofs.Ytkpfnhkfecpefaa.Pat
open Go Go.RowKit Go.Proofs Go.Proofs.YtkpfnhkfecpefaaW.PrintWords Go.Proofs.YtkpfnhkfecpefaaW.PrintMore Go.Proofs.YtkpfnhkfecpefaaW.PrintLast Go.Proofs.Ytkpfnhkfecpefaa.Ref Go.Proofs.Ytkpfnhkfecpefaa.Aid
set_option linter.unusedVariables false
set_option linter.unusedSimpArgs false
attribute [local go_sem] max2_int min2_int max_two min_two max_three min_three
theorem in_none (l : List (List Int)) (b : List Int) (h : b.length = 0) (hp : ∀ p ∈ l, 0 < p.length) : inP l b = false := by
  unfold inP
  rw [decide_eq_false]
  intro hm
  obtain ⟨p, hp2, he⟩ := List.mem_map.mp hm
  have h1 := hp p hp2
  have h2 := congrArg List.length he
  unfold sk at h2
  rw [List.length_map, List.length_map] at h2
  omega
set_option maxHeartbeats 16000000 in
set_option maxRecDepth 100000 in
theorem loads_calls (A0 Ab : Option Addr) (c0 cb : Nat) (l0 b : List Int) (fd : Bool) (hby : Byt l0) (w : World) (hr0 : Kd.C (Kd.int .u8) w A0 l0.length l0) (hc0 : l0.length ≤ c0) (hrb : Kd.C (Kd.int .u8) w Ab b.length b) (hcb : b.length ≤ cb) :
    Calls Try.prog 3 #[.slice A0 l0.length c0, .bool fd, .slice Ab b.length cb] w fun e w' => e = .returned (.bool true) ∧ Below w.heap.size w w' := by
  have HR0 := Aside0.mk hr0
  have HC0 := Aside0.mk hc0
  have HRB := Aside0.mk hrb
  have HBY := Aside0.mk hby
  have hu := Try.underlying27
  have hu3 := Try.underlying33
  clear hr0 hc0 hrb hcb hby
  go_enter Try.func3, Try.ntmps3
  go_wp2_with fail
  refine (awake_calls _).mono ?_
  rintro e w1 ⟨rfl, hb1⟩
  have HB1 := Aside0.mk hb1
  clear hb1
  by_cases hlen : 2000 < l0.length
  · have d1 : decide ((l0.length : Int) > 2000) = true := decide_eq_true (by omega)
    have d2 : decide ((2000 : Int) < (l0.length : Int)) = true := decide_eq_true (by omega)
    have d3 : decide (2000 < l0.length) = true := decide_eq_true hlen
    clear hlen
    go_wp2
    go_ret
    exact ⟨rfl, HB1.out⟩
  have d1 : decide ((l0.length : Int) > 2000) = false := decide_eq_false (by omega)
  have d2 : decide ((2000 : Int) < (l0.length : Int)) = false := decide_eq_false (by omega)
  have d3 : decide (2000 < l0.length) = false := decide_eq_false hlen
  by_cases hlb : 300 < b.length
  · have d4 : decide ((b.length : Int) > 300) = true := decide_eq_true (by omega)
    have d5 : decide ((300 : Int) < (b.length : Int)) = true := decide_eq_true (by omega)
    have d6 : decide (300 < b.length) = true := decide_eq_true hlb
    clear hlb hlen
    go_wp2
    go_ret
    exact ⟨rfl, HB1.out⟩
  have d4 : decide ((b.length : Int) > 300) = false := decide_eq_false (by omega)
  have d5 : decide ((300 : Int) < (b.length : Int)) = false := decide_eq_false (by omega)
  have d6 : decide (300 < b.length) = false := decide_eq_false hlb
  have HLN := Aside0.mk (show b.length ≤ 300 by omega)
  clear hlen hlb
  go_wp2_with fail
  obtain ⟨f1, f2, f3, f4⟩ := load_facts l0 fd
  have HF := Aside0.mk (And.intro f1 (And.intro f2 (And.intro f3 f4)))
  have HRL := Aside0.mk (fun W => refload_calls l0 fd HBY.out W)
  refine (load_calls w1 A0 c0 l0.length l0 fd rfl (Kd.C_below HR0.out HB1.out) HC0.out).mono ?_
  rintro e w2 ⟨v2, rfl, hs2, hb2⟩
  generalize loadP l0 fd = s at hs2 HF HRL
  generalize loadE l0 = cd at HRL ⊢
  obtain ⟨sl, se⟩ := s
  have HF1 := Aside0.mk (show sl.length ≤ 1024 from HF.out.1)
  have HF2 := Aside0.mk (show totN sl ≤ 1024 from HF.out.2.1)
  have HF3 := Aside0.mk (show ∀ p ∈ sl, 0 < p.length from HF.out.2.2.1)
  have HF4 := Aside0.mk (show ∀ p ∈ sl, p.length ≤ 1024 from HF.out.2.2.2)
  clear HF
  obtain ⟨r, hr⟩ : ∃ r : Bool, r = inP sl b := ⟨_, rfl⟩
  have HRR := Aside0.mk hr
  clear hr
  obtain ⟨A2, c2, M2, rfl, _, _, _, _⟩ := hs2.lies
  have HA2 := Aside0.mk (below_alloc (Below.refl w2.heap.size w2) (.cells #[.slice A2 sl.length c2, .map M2, .bool se] 27))
  have HX2 := Aside0.mk (blk_new w2 (.cells #[.slice A2 sl.length c2, .map M2, .bool se] 27))
  have HS2 := Aside0.mk (hs2.below HA2.out)
  have HB2 := Aside0.mk (Below.trans HB1.out ((Below.trans hb2 (HA2.out.mono hb2.size)).mono HB1.out.size))
  have sf := Kd.C_string (P := Try.prog) (A := A0) (c := c0) Try.underlying22 Try.underlying5 Try.underlying9 (Kd.C_below HR0.out HB2.out)
  clear hs2 hb2 HA2 f1 f2 f3 f4
  generalize strOfNums l0 = fs at sf HRL
  go_wp2_with fail
  refine (HRL.out _).mono ?_
  rintro e w3 ⟨v3, rfl, hq3, hb3⟩
  obtain ⟨A3, c3, rfl, hc3, hC3⟩ := hq3.lies
  have HA3 := Aside0.mk (below_alloc (Below.refl w3.heap.size w3) (.cells #[.slice A3 sl.length c3, .bool se] 33))
  have HQ3 := Aside0.mk (Below.trans hb3 (HA3.out.mono hb3.size))
  have HY3 := Aside0.mk (blk_new w3 (.cells #[.slice A3 sl.length c3, .bool se] 33))
  have HX3 := Aside0.mk (blk_below HX2.out HQ3.out)
  have HS3 := Aside0.mk (HS2.out.below HQ3.out)
  have HW3 := Aside0.mk (hq3.below HA3.out)
  have HI3 := Aside0.mk (And.intro hc3 (Kd.C_below hC3 HA3.out))
  have HB3 := Aside0.mk (Below.trans HB2.out (HQ3.out.mono HB2.out.size))
  have HRB3 := Aside0.mk (Kd.C_below HRB.out HB3.out)
  have sb := Kd.C_string (P := Try.prog) (A := Ab) (c := cb) Try.underlying22 Try.underlying5 Try.underlying9 HRB3.out
  have HIN := Aside0.mk (refin_calls sl b A3 c3 (w3.alloc (.cells #[.slice A3 sl.length c3, .bool se] 33)) HI3.out.2 HI3.out.1 (by have := HF1.out; omega))
  rw [← HRR.out] at HIN
  clear hq3 hb3 HA3 HQ3 hc3 hC3 HRL HX2 HS2 HB2 sf
  have k20 := (blk_cell HY3.out 0).trans (show _ = some (Value.slice A3 sl.length c3) from rfl)
  have k21 := (blk_cell HY3.out 1).trans (show _ = some (Value.bool se) from rfl)
  generalize strOfNums b = bs at sb HIN
  go_wp2_with fail
  clear k20 k21
  have HGEN := Aside0.mk (Below.refl (w3.alloc (.cells #[.slice A3 sl.length c3, .bool se] 33)).heap.size (w3.alloc (.cells #[.slice A3 sl.length c3, .bool se] 33)))
  generalize w3.alloc (.cells #[.slice A3 sl.length c3, .bool se] 33) = w4 at HY3 HX3 HS3 HW3 HI3 HB3 HRB3 sb HIN HGEN ⊢
  generalize w3.heap.size = g2 at HY3 ⊢
  generalize w2.heap.size = g1 at HX3 ⊢
  clear HGEN
  refine HIN.out.mono ?_
  rintro e w5 ⟨rfl, ⟨nd, rfl⟩⟩
  have HD := Aside0.mk (pw_below_drewN (Below.refl w4.heap.size w4) nd)
  have HX5 := Aside0.mk (blk_below HX3.out HD.out)
  have HY5 := Aside0.mk (blk_below HY3.out HD.out)
  have HS5 := Aside0.mk (HS3.out.below HD.out)
  have HW5 := Aside0.mk (HW3.out.below HD.out)
  have HR5 := Aside0.mk (Kd.C_below HRB3.out HD.out)
  have HB5 := Aside0.mk (Below.trans HB3.out (HD.out.mono HB3.out.size))
  have hec : (cd == cd) = true := beq_self_eq_true cd
  clear HIN HX3 HY3 HS3 HW3 HI3 HB3 HRB3 sb HD
  generalize w4.drewN nd = w5 at HX5 HY5 HS5 HW5 HR5 HB5 ⊢
  have k10 := (blk_cell HX5.out 0).trans (show _ = some (Value.slice A2 sl.length c2) from rfl)
  have k11 := (blk_cell HX5.out 1).trans (show _ = some (Value.map M2) from rfl)
  have k12 := (blk_cell HX5.out 2).trans (show _ = some (Value.bool se) from rfl)
  have k20 := (blk_cell HY5.out 0).trans (show _ = some (Value.slice A3 sl.length c3) from rfl)
  have k21 := (blk_cell HY5.out 1).trans (show _ = some (Value.bool se) from rfl)
  have HSM := Aside0.mk (same_calls HS5.out HW5.out (by show sl.length ≤ _; have := HF1.out; omega) (by show totN sl ≤ _; have := HF2.out; omega) HF3.out (fun p hp => Nat.le_trans (HF4.out p hp) (by decide)))
  by_cases hb0 : b.length = 0
  · have q1 : ((b.length : Int) == 0) = true := beq_iff_eq.mpr (by omega)
    have q2 : (b.length == 0) = true := beq_iff_eq.mpr hb0
    have q3 : r = false := HRR.out.trans (in_none sl b hb0 HF3.out)
    subst q3
    have HHP := Aside0.mk (show hasP ⟨sl, se⟩ b = se from if_pos hb0)
    clear hb0
    cases se with
    | true =>
      go_wp2_with fail
      refine HSM.out.mono ?_
      rintro e w6 ⟨rfl, hb6⟩
      have HX6 := Aside0.mk (blk_below HX5.out hb6)
      have HS6 := Aside0.mk (HS5.out.below hb6)
      have HR6 := Aside0.mk (Kd.C_below HR5.out hb6)
      have HB6 := Aside0.mk (Below.trans HB5.out (hb6.mono HB5.out.size))
      have HHC := Aside0.mk (has_calls HS6.out b Ab b.length cb rfl HR6.out (by have := HLN.out; omega))
      rw [HHP.out] at HHC
      clear k10 k11 k12 k20 k21 hb6
      have k10 := (blk_cell HX6.out 0).trans (show _ = some (Value.slice A2 sl.length c2) from rfl)
      have k11 := (blk_cell HX6.out 1).trans (show _ = some (Value.map M2) from rfl)
      have k12 := (blk_cell HX6.out 2).trans (show _ = some (Value.bool true) from rfl)
      go_wp2_with fail
      refine HHC.out.mono ?_
      rintro e w7 ⟨rfl, hb7⟩
      have HB7 := Aside0.mk (Below.trans HB6.out (hb7.mono HB6.out.size))
      clear hb7
      go_wp2
      go_ret
      exact ⟨rfl, HB7.out⟩
    | false =>
      go_wp2_with fail
      refine HSM.out.mono ?_
      rintro e w6 ⟨rfl, hb6⟩
      have HX6 := Aside0.mk (blk_below HX5.out hb6)
      have HS6 := Aside0.mk (HS5.out.below hb6)
      have HR6 := Aside0.mk (Kd.C_below HR5.out hb6)
      have HB6 := Aside0.mk (Below.trans HB5.out (hb6.mono HB5.out.size))
      have HHC := Aside0.mk (has_calls HS6.out b Ab b.length cb rfl HR6.out (by have := HLN.out; omega))
      rw [HHP.out] at HHC
      clear k10 k11 k12 k20 k21 hb6
      have k10 := (blk_cell HX6.out 0).trans (show _ = some (Value.slice A2 sl.length c2) from rfl)
      have k11 := (blk_cell HX6.out 1).trans (show _ = some (Value.map M2) from rfl)
      have k12 := (blk_cell HX6.out 2).trans (show _ = some (Value.bool false) from rfl)
      go_wp2_with fail
      refine HHC.out.mono ?_
      rintro e w7 ⟨rfl, hb7⟩
      have HB7 := Aside0.mk (Below.trans HB6.out (hb7.mono HB6.out.size))
      clear hb7
      go_wp2
      go_ret
      exact ⟨rfl, HB7.out⟩
  · have q1 : ((b.length : Int) == 0) = false := beq_eq_false_iff_ne.mpr (by omega)
    have q2 : (b.length == 0) = false := beq_eq_false_iff_ne.mpr hb0
    have HHP := Aside0.mk (show hasP ⟨sl, se⟩ b = r from (if_neg hb0).trans HRR.out.symm)
    clear hb0 HRR
    cases r with
    | true =>
      go_wp2_with fail
      refine HSM.out.mono ?_
      rintro e w6 ⟨rfl, hb6⟩
      have HX6 := Aside0.mk (blk_below HX5.out hb6)
      have HS6 := Aside0.mk (HS5.out.below hb6)
      have HR6 := Aside0.mk (Kd.C_below HR5.out hb6)
      have HB6 := Aside0.mk (Below.trans HB5.out (hb6.mono HB5.out.size))
      have HHC := Aside0.mk (has_calls HS6.out b Ab b.length cb rfl HR6.out (by have := HLN.out; omega))
      rw [HHP.out] at HHC
      clear k10 k11 k12 k20 k21 hb6
      have k10 := (blk_cell HX6.out 0).trans (show _ = some (Value.slice A2 sl.length c2) from rfl)
      have k11 := (blk_cell HX6.out 1).trans (show _ = some (Value.map M2) from rfl)
      have k12 := (blk_cell HX6.out 2).trans (show _ = some (Value.bool se) from rfl)
      go_wp2_with fail
      refine HHC.out.mono ?_
      rintro e w7 ⟨rfl, hb7⟩
      have HB7 := Aside0.mk (Below.trans HB6.out (hb7.mono HB6.out.size))
      clear hb7
      go_wp2
      go_ret
      exact ⟨rfl, HB7.out⟩
    | false =>
      go_wp2_with fail
      refine HSM.out.mono ?_
      rintro e w6 ⟨rfl, hb6⟩
      have HX6 := Aside0.mk (blk_below HX5.out hb6)
      have HS6 := Aside0.mk (HS5.out.below hb6)
      have HR6 := Aside0.mk (Kd.C_below HR5.out hb6)
      have HB6 := Aside0.mk (Below.trans HB5.out (hb6.mono HB5.out.size))
      have HHC := Aside0.mk (has_calls HS6.out b Ab b.length cb rfl HR6.out (by have := HLN.out; omega))
      rw [HHP.out] at HHC
      clear k10 k11 k12 k20 k21 hb6
      have k10 := (blk_cell HX6.out 0).trans (show _ = some (Value.slice A2 sl.length c2) from rfl)
      have k11 := (blk_cell HX6.out 1).trans (show _ = some (Value.map M2) from rfl)
      have k12 := (blk_cell HX6.out 2).trans (show _ = some (Value.bool se) from rfl)
      go_wp2_with fail
      refine HHC.out.mono ?_
      rintro e w7 ⟨rfl, hb7⟩
      have HB7 := Aside0.mk (Below.trans HB6.out (hb7.mono HB6.out.size))
      clear hb7
      go_wp2
      go_ret
      exact ⟨rfl, HB7.out⟩
end Go.Proofs.Ytkpfnhkfecpefaa.Pat
