/- StreamOffs: each line stands where it is told to begin. -/
import Derived.Test.YtgiaabgmnjaefaaStrS
import Derived.Test.YtgiaabgmnjaefaaStrV
namespace Go.Proofs.Ytgiaabgmnjaefaa.Str
open Go Go.RowKit Go.Proofs Go.Proofs.Ytgiaabgmnjaefaa.Met Go.Proofs.Ytgiaabgmnjaefaa.Win Go.Proofs.YtgiaabgmnjaefaaW.PrintWords Go.Proofs.YtgiaabgmnjaefaaW.PrintMore
set_option linter.unusedVariables false
set_option linter.unusedSimpArgs false
attribute [local go_sem] max2_int min2_int max_two min_two max_three min_three
/-- where the law's loop stands -/
structure Of (b : List Int) (most : Int) (X : List Ln) (i at_ : Nat) : Prop where
  le : i ≤ X.length
  told : Told b most i at_ (X.drop i)
  fin : endAt at_ (X.drop i) = endAt 0 X
  lo : at_ ≤ b.length + 1
theorem off_w {lb a m : Nat} (h : a + m ≤ lb) (hb : lb ≤ 1500) : wrap64 ((lb : Int) - (a : Int)) = (lb : Int) - (a : Int) ∧ wrap64 ((a : Int) + (m : Int)) = (a : Int) + (m : Int) ∧ wrap64 ((m : Int) + 1) = (m : Int) + 1 ∧ wrap64 ((a : Int) + ((m : Int) + 1)) = ((a + m + 1 : Nat) : Int) ∧ wrap64 (((a + m + 1 : Nat) : Int) - 1) = ((a + m : Nat) : Int) ∧ decide ((m : Int) > (lb : Int) - (a : Int)) = false ∧ decide ((lb : Int) - (a : Int) < (m : Int)) = false := by
  refine ⟨wr9 ?_ ?_, wr9 ?_ ?_, wr9 ?_ ?_, ?_, ?_, decide_eq_false ?_, decide_eq_false ?_⟩ <;> first | omega | (unfold wrap64; omega)
theorem off_q {lb a m : Nat} (h : a + m < lb) : decide ((a : Int) + (m : Int) + 1 ≤ (lb : Int)) = true ∧ decide (a + m + 1 ≤ lb) = true ∧ decide (a + m < lb) = true := ⟨decide_eq_true (by omega), decide_eq_true (by omega), decide_eq_true h⟩
theorem off_k {lb a m : Nat} (h : a + m < lb) : 0 ≤ (a : Int) + (m : Int) ∧ (a : Int) + (m : Int) < (lb : Int) := ⟨by omega, by omega⟩
theorem off_n {lb a m : Nat} (h : ¬ a + m < lb) : decide ((a : Int) + (m : Int) + 1 ≤ (lb : Int)) = false ∧ decide (a + m + 1 ≤ lb) = false ∧ decide (a + m < lb) = false := ⟨decide_eq_false (by omega), decide_eq_false (by omega), decide_eq_false h⟩
theorem cast3 (a m : Nat) : ((a : Int) + (m : Int) + 1) = ((a + m + 1 : Nat) : Int) := by omega
set_option maxHeartbeats 16000000 in
set_option maxRecDepth 100000 in
theorem offs_calls (A0 : Option Addr) (c0 : Nat) (l0 : List (List Int)) (most : Int) (h0 : 0 ≤ most) (h1 : most < 65536) (w : World) (hr0 : Kd.C kB w A0 l0.length l0) (hc0 : l0.length ≤ c0) :
    Calls Try.prog 7 #[.slice A0 l0.length c0, .int .u16 most] w fun e w' => e = .returned (.bool true) ∧ Below w.heap.size w w' := by
  have HR0 := Aside0.mk hr0
  have HC0 := Aside0.mk hc0
  have HMO := Aside0.mk (And.intro h0 h1)
  have hwm : IntKind.i64.wrap most = most := wr_in (by omega) (by omega)
  have hwm2 : wrap64 most = most := wr9 (by omega) (by omega)
  clear hr0 hc0 h0 h1
  go_enter Try.func7, Try.ntmps7
  go_wp2_with fail
  refine (awake_calls _).mono ?_
  rintro e w1 ⟨rfl, hb1⟩
  have HB1 := Aside0.mk hb1
  clear hb1
  go_wp2_with fail
  refine (few_calls _ A0 c0 l0 (Kd.C_below HR0.out HB1.out) HC0.out).mono ?_
  rintro e w2 ⟨v, rfl, r1, rfl, hb2, hq1⟩
  have HB2 := Aside0.mk (below_step HB1.out hb2)
  have HQ1 := Aside0.mk hq1
  clear hb2 hq1
  cases r1 with
  | false =>
    go_wp2
    go_ret
    exact ⟨rfl, HB2.out⟩
  | true =>
  have HF1 := Aside0.mk (HQ1.out rfl)
  clear HQ1
  go_wp2_with fail
  refine (all_calls w2 A0 c0 l0 (Kd.C_below HR0.out HB2.out) HC0.out HF1.out.1 HF1.out.2).mono ?_
  rintro e w3 ⟨vb, rfl, hrb, hb3⟩
  have HLB := Aside0.mk (show l0.flatten.length ≤ 1500 by rw [flat_len]; exact HF1.out.1)
  have P1 := Aside0.mk (runF_new most l0)
  have HTN := Aside0.mk (told_new l0.flatten most HMO.out.1)
  have HCE := Aside0.mk (coE_hunt (coB (mostN most) newCo l0.flatten))
  have hmn : mostN most = most := if_neg (by have := HMO.out.1; omega)
  rw [hmn] at P1 HCE
  clear hmn
  generalize l0.flatten = b at hrb HLB P1 HTN HCE
  obtain ⟨Ab, cb, hv⟩ := Kd.R_slice hrb
  subst hv
  have HRB := Aside0.mk hrb
  have HB3 := Aside0.mk (Below.trans HB2.out (hb3.mono HB2.out.size))
  clear hrb hb3
  go_wp2_with fail
  refine (stream_new none most 0 w3 w3.heap.size (Nat.le_refl _) (fun k e => by cases e) (fun g hg => by cases hg)).mono ?_
  rintro e w4 ⟨gs, gw, rfl, hs, hb4, hgs, hgw⟩
  have HS4 := Aside0.mk hs
  have HRB4 := Aside0.mk (Kd.R_below (Kd.R_bound HRB.out) hb4)
  have HB4 := Aside0.mk (Below.trans HB3.out (hb4.mono HB3.out.size))
  have HZ4 := Aside0.mk hb4.size
  have HCC := Aside0.mk (src_arg (w0 := w3) (w := w4) (Kd.C_below HR0.out HB3.out) hb4 hs)
  clear hs hb4 hgs hgw
  go_wp2_with fail
  refine (run_calls HS4.out (bd_new most 0) l0 c0 HCC.out HC0.out (by have := HF1.out.1; omega) (by have := HF1.out.2; omega) (Nat.zero_le _) (Nat.zero_le _) HZ4.out).mono ?_
  rintro e w5 ⟨vx, A5, rfl, hx5, hl5⟩
  rw [P1.out.2] at hx5
  have P1S := Aside0.mk P1.out.1
  clear P1
  generalize (runF (newSS most 0) l0).1 = s1 at hl5 P1S
  generalize lnB most newCo b ++ lnE (coB most newCo b) = X at hx5 HTN
  obtain ⟨Ax, cx, hv⟩ := Kd.R_slice hx5
  subst hv
  have HX := Aside0.mk (Kd.R_reads' hx5)
  have HS5 := Aside0.mk hl5.str
  have HC5 := Aside0.mk (Kd.R_reads' (Kd.R_kept HRB4.out hl5.kept (fun k hk hs => by have := foot_low HS4.out k hs; have := hk.2.2.1; omega)))
  have HB5 := Aside0.mk (Below.trans HB4.out (hl5.bel.mono HB3.out.size))
  have HXL := Aside0.mk (C_len HX.out.2.2)
  clear hx5 hl5
  go_wp2
  go_loopw [10, 11] (fun v10 v11 wr => ∃ (i at_ : Nat), v10 = .int .i64 (at_ : Int) ∧ v11 = .int .i64 (i : Int) ∧ Aside0 (Of b most X i at_) ∧ Aside0 (Below w5.heap.size w5 wr)) (fun _ v _ => X.length - (intOf v).toNat)
  case atStart => exact ⟨0, 0, rfl, rfl, ⟨Nat.zero_le _, HTN.out.1, rfl, Nat.zero_le _⟩, ⟨Below.refl _ _⟩⟩
  case round =>
    obtain ⟨i, at_, rfl, rfl, HO, HBW⟩ := hrel
    by_cases hlt : i < X.length
    · have e1 : decide ((i : Int) < (X.length : Int)) = true := decide_eq_true (by omega)
      have e2 : decide (i < X.length) = true := decide_eq_true hlt
      have HIL := Aside0.mk hlt
      have hd : X.drop i = X[i] :: X.drop (i + 1) := List.drop_eq_getElem_cons hlt
      obtain ⟨ad1, A1, c1, rfl, p0, p1, p2, p3, p4⟩ := line_at (Kd.C_below HX.out.2.2 HBW.out) i (X[i]) (List.getElem?_eq_getElem _)
      have HTO := Aside0.mk (show Told b most i at_ (X[i] :: X.drop (i + 1)) by rw [← hd]; exact HO.out.told)
      have HTD := Aside0.mk (told_drop b most _ i at_ _ _ HTO.out rfl)
      have HFI := Aside0.mk (show endAt at_ (X[i] :: X.drop (i + 1)) = endAt 0 X by rw [← hd]; exact HO.out.fin)
      generalize hx : (X[i]'hlt) = x at p0 p1 p2 p3 p4 HTO HTD HFI
      obtain ⟨x0, x1, xs⟩ := x
      obtain ⟨t0, t1, t2, t3, t4, t5, t6⟩ := HTO.out
      dsimp only at p0 p1 p2 p3 p4 t0 t1 t2 t3 t4 t5 t6 HTD HFI
      rw [t0] at p0
      rw [t1] at p1
      have T2 := Aside0.mk t2
      have T3 := Aside0.mk t3
      have T4 := Aside0.mk t4
      have T5 := Aside0.mk t5
      have HCB := Aside0.mk HC5.out.2.1
      obtain ⟨As, hAs⟩ : ∃ As, As = (if cb = at_ then Ab else Ab.map (·.add at_)) := ⟨_, rfl⟩
      have hcl : ∀ W : World, (Instr.slice 38 (.slice Ab b.length cb) (some (.int .i64 (at_ : Int))) (some (.int .i64 ((at_ : Int) + (xs.length : Int)))) none).run Try.prog W = .ok (.slice As xs.length (cb - at_)) W := by
        intro W
        have := cut_lh Ab b.length cb at_ (at_ + xs.length) (by omega) (by have := HCB.out; omega) W
        rw [← hAs, show at_ + xs.length - at_ = xs.length by omega, Int.natCast_add] at this
        exact this
      have hmc := mid_C (c := cb) (Kd.C_below HC5.out.2.2 HBW.out) at_ (at_ + xs.length) (by omega) t3 HC5.out.2.1
      rw [← hAs, show (b.take (at_ + xs.length)).drop at_ = xs by rw [List.drop_take, show at_ + xs.length - at_ = xs.length by omega]; exact t4] at hmc
      have s0 := fun m => Kd.C_string (P := Try.prog) (A := A1) (c := c1) Try.underlying38 Try.underlying5 Try.underlying9 (Kd.C_drewN p4 m)
      have s1' := fun m => Kd.C_string (P := Try.prog) (A := As) (c := cb - at_) Try.underlying38 Try.underlying5 Try.underlying9 (Kd.C_drewN hmc m)
      have HNX := Aside0.mk (fun (h : at_ + xs.length < b.length) => Kd.at_int (Kd.C_below HC5.out.2.2 HBW.out) ((at_ + xs.length : Nat) : Int) (by omega) (by omega))
      clear hmc t0 t1 t2 t3 t4 t5 t6 p3 p4 hAs hd hx hlt
      generalize strOfNums xs = str at s0 s1'
      generalize xs.length = m at p2 s0 s1' T2 T3 T5 hcl HNX HTD HFI
      have hm2 : ((m : Int)) ≤ most := T2.out
      have hm3 : at_ + m ≤ b.length := T3.out
      have k0 : 0 ≤ (i : Int) := by omega
      have k1 : (i : Int) < (X.length : Int) := by have := HIL.out; omega
      have k2 : 0 ≤ (at_ : Int) := by omega
      have d1 : decide ((m : Int) > most) = false := decide_eq_false (by omega)
      have d1b : decide (most < (m : Int)) = false := decide_eq_false (by omega)
      obtain ⟨w1', w2', w3', w4', w6', d2, d2b⟩ := off_w (lb := b.length) (a := at_) (m := m) T3.out HLB.out
      have w5' : wrap64 ((i : Int) + 1) = ((i + 1 : Nat) : Int) := wr_big (by omega) (by have := HXL.out; have := HIL.out; omega)
      have HM3 := Aside0.mk hm3
      clear hm2 hm3
      go_wp2_with fail
      go_quiet (fail)
      by_cases hq : at_ + m < b.length
      · obtain ⟨adb, hab, hcb⟩ := HNX.out hq
        have hrd : rd b ((at_ + m : Nat) : Int) = 10 := by
          have := T5.out hq
          unfold rd
          rw [Int.toNat_natCast, List.getD_eq_getElem?_getD, List.getElem?_eq_getElem hq]
          exact this
        rw [hrd, Int.toNat_natCast] at hcb
        have HQ := Aside0.mk hq
        obtain ⟨q1, q2, q3⟩ := off_q hq
        obtain ⟨q4, q5⟩ := off_k hq
        clear hq hrd
        go_wp2_with fail
        exact ⟨⟨i + 1, at_ + m + 1, by first | rfl | exact congrArg (Value.int .i64) (cast3 _ _) | exact congrArg (Value.int .i64) w4', congrArg (Value.int .i64) w5', ⟨⟨HIL.out, HTD.out.1, HTD.out.2.symm.trans HFI.out, Nat.succ_le_succ HM3.out⟩⟩, ⟨pw_below_drewN HBW.out _⟩⟩, ms_step HIL.out w5'⟩
      · obtain ⟨q1, q2, q3⟩ := off_n hq
        clear hq
        go_wp2_with fail
        exact ⟨⟨i + 1, at_ + m + 1, congrArg (Value.int .i64) w4', congrArg (Value.int .i64) w5', ⟨⟨HIL.out, HTD.out.1, HTD.out.2.symm.trans HFI.out, Nat.succ_le_succ HM3.out⟩⟩, ⟨pw_below_drewN HBW.out _⟩⟩, ms_step HIL.out w5'⟩
    · have e1 : decide ((i : Int) < (X.length : Int)) = false := decide_eq_false (by omega)
      have e2 : decide (i < X.length) = false := decide_eq_false hlt
      have HEN := Aside0.mk (show s1.bad = 0 → b.length ≤ at_ from fun hb => by
        have h1 := HO.out.fin
        rw [List.drop_eq_nil_of_le (by omega)] at h1
        have h2 := HTN.out.2 (by rw [← HCE.out.2, P1S.out.bad, hb])
        rw [← h1] at h2
        exact h2)
      have HE5 := Aside0.mk (err_some (HS5.out.below HBW.out))
      generalize s1.bad = bd at HE5 HEN
      generalize (if bd = 0 then 0 else (s1.num : Int)) = er at HE5
      clear hlt HO
      go_wp2_with fail
      refine HE5.out.mono ?_
      rintro e w7 ⟨rfl, hb7⟩
      have HB7 := Aside0.mk (Below.trans HBW.out (hb7.mono HBW.out.size))
      clear hb7 HE5
      by_cases hbd : bd = 0
      · have HGE := Aside0.mk (HEN.out hbd)
        subst hbd
        have d3 : decide ((b.length : Int) ≤ (at_ : Int)) = true := decide_eq_true (by have := HGE.out; omega)
        have d4 : decide (b.length ≤ at_) = true := decide_eq_true HGE.out
        go_wp2
        go_ret
        exact ⟨rfl, Below.trans HB5.out (HB7.out.mono HB5.out.size)⟩
      · have d5 : (bd != 0) = true := bne_iff_ne.mpr hbd
        go_wp2
        go_ret
        exact ⟨rfl, Below.trans HB5.out (HB7.out.mono HB5.out.size)⟩
end Go.Proofs.Ytgiaabgmnjaefaa.Str
