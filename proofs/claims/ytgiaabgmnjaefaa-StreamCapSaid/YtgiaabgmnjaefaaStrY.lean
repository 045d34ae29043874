/- StreamMoves: how many bytes are moved. -/
import Derived.Test.YtgiaabgmnjaefaaStrS
import Derived.Test.YtgiaabgmnjaefaaStrX
namespace Go.Proofs.Ytgiaabgmnjaefaa.Str
open Go Go.RowKit Go.Proofs Go.Proofs.Ytgiaabgmnjaefaa.Met Go.Proofs.Ytgiaabgmnjaefaa.Win Go.Proofs.YtgiaabgmnjaefaaW.PrintWords Go.Proofs.YtgiaabgmnjaefaaW.PrintMore
set_option linter.unusedVariables false
set_option linter.unusedSimpArgs false
attribute [local go_sem] max2_int min2_int max_two min_two max_three min_three
/-- where the slow stream stands: i bytes are fed -/
structure Sw (w wr : World) (b : List Int) (gs gw gk : Nat) (A : Option Addr) (s : SS) (i : Nat) : Prop where
  le : i ≤ b.length
  str : StrAt wr w.heap.size gs gw (some gk) A s
  slow : Slow s i (bareN (b.take i)) b.length
  bd : Bd s (3 * i)
  bel : Below w.heap.size w wr
theorem bare_take (b : List Int) (i : Nat) (h : i < b.length) : bareN (b.take (i + 1)) = bareN (b.take i) + (if b[i] = 10 then 0 else 1) := by
  rw [List.take_succ_eq_append_getElem h, bare_app]
  rfl
/-- one byte more -/
theorem sw_step {w wr w2 w3 : World} {b : List Int} {gs gw gk i : Nat} {A A2 A3 : Option Addr} {s : SS} {c : Int} (h : Sw w wr b gs gw gk A s i) (hl : b.length ≤ 1500) (hi : i < b.length) (hc : b[i] = c)
    (h2 : Lined wr w2 w.heap.size gs gw (some gk) A A2 s (step s [c]).1) (h3 : Lined w2 w3 w.heap.size gs gw (some gk) A2 A3 (step s [c]).1 (step (step s [c]).1 []).1) : Sw w w3 b gs gw gk A3 (step s [c]).1 (i + 1) ∧ bareN (b.take (i + 1)) = bareN (b.take i) + (if c = 10 then 0 else 1) := by
  have e1 := bare_take b i hi
  rw [hc] at e1
  have e2 := slow_step h.slow c hi
  have e3 := slow_rest e2
  have e4 := (step_bd s [c] _ h.bd (by have := h.slow.good.held; have := h.slow.Ni; simp only [List.length_cons, List.length_nil]; omega)).1
  have hs := h3.str
  rw [e3] at hs
  refine ⟨⟨hi, hs, by rw [e1]; exact e2, e4.mono (by simp only [List.length_cons, List.length_nil]; omega), Below.trans h.bel (Below.trans h2.bel h3.bel)⟩, e1⟩
theorem sw_w {lb i : Nat} (h : i < lb) (hb : lb ≤ 1500) (n : Nat) (hn : n ≤ 1500) : wrap64 ((i : Int) + 1) = ((i + 1 : Nat) : Int) ∧ wrap64 ((n : Int) + 1) = ((n + 1 : Nat) : Int) ∧ decide ((i : Int) < (lb : Int)) = true ∧ decide (i < lb) = true ∧ 0 ≤ (i : Int) ∧ (i : Int) < (lb : Int) := by
  refine ⟨wr9 (by omega) (by omega), wr9 (by omega) (by omega), decide_eq_true (by omega), decide_eq_true h, by omega, by omega⟩
theorem sw_e {mv1 lb n mv3 : Nat} (h1 : mv1 ≤ 3 * lb) (hb : lb ≤ 1500) (hn : n ≤ lb) (h2 : n ≤ mv3) (h3 : mv3 ≤ 3 * n) : wrap64 (3 * (lb : Int)) = 3 * (lb : Int) ∧ wrap64 (3 * (n : Int)) = 3 * (n : Int) ∧ decide ((mv1 : Int) ≤ 3 * (lb : Int)) = true ∧ decide ((n : Int) ≤ (mv3 : Int)) = true ∧ decide (n ≤ mv3) = true ∧ decide ((mv3 : Int) ≤ 3 * (n : Int)) = true ∧ decide ((mv3 : Int) ≥ (n : Int)) = true := by
  refine ⟨wr9 (by omega) (by omega), wr9 (by omega) (by omega), decide_eq_true (by omega), decide_eq_true (by omega), decide_eq_true h2, decide_eq_true (by omega), decide_eq_true (by omega)⟩
set_option maxHeartbeats 16000000 in
set_option maxRecDepth 100000 in
theorem moves_calls (A0 : Option Addr) (c0 : Nat) (l0 : List (List Int)) (most : Int) (w : World) (hr0 : Kd.C kB w A0 l0.length l0) (hc0 : l0.length ≤ c0) :
    Calls Try.prog 5 #[.slice A0 l0.length c0, .int .i64 most] w fun e w' => e = .returned (.bool true) ∧ Below w.heap.size w w' := by
  have HR0 := Aside0.mk hr0
  have HC0 := Aside0.mk hc0
  clear hr0 hc0
  go_enter Try.func5, Try.ntmps5
  go_wp2_with fail
  refine (awake_calls _).mono ?_
  rintro e w1 ⟨rfl, hb1⟩
  have HB1 := Aside0.mk hb1
  clear hb1
  go_wp2_with fail
  refine (few_calls _ A0 c0 l0 (Kd.C_below HR0.out HB1.out) HC0.out).mono ?_
  rintro e w2 ⟨v, rfl, r1, rfl, hb2, hq1⟩
  have HB2 := Aside0.mk (below_step HB1.out hb2)
  have HQ1 := Aside0.mk hq1
  clear hb2 hq1
  cases r1 with
  | false =>
    go_wp2
    go_ret
    exact ⟨rfl, HB2.out⟩
  | true =>
  have HF1 := Aside0.mk (HQ1.out rfl)
  clear HQ1
  go_wp2_with fail
  refine (meter_new _).mono ?_
  rintro e w4 ⟨rfl, hw4⟩
  obtain ⟨gm, hgm⟩ : ∃ gm, gm = w2.heap.size := ⟨_, rfl⟩
  have HM := Aside0.mk (show MAt w4 (some gm) 0 0 ((0 : Nat) : Int) 0 from fun g hg => by cases hg; rw [hw4, hgm]; exact blk_new w2 _)
  have HB4 := Aside0.mk (show Below w.heap.size w w4 by rw [hw4]; exact below_alloc HB2.out _)
  have HG := Aside0.mk (show ∀ k, some gm = some k → w.heap.size ≤ k from fun k e => by cases e; rw [hgm]; exact HB2.out.size)
  rw [← hgm]
  clear hw4 hgm
  go_wp2_with fail
  refine (stream_new (some gm) most 0 w4 w.heap.size HB4.out.size HG.out HM.out).mono ?_
  rintro e w5 ⟨gs, gw, rfl, hs, hb5, hgs, hgw⟩
  have HS5 := Aside0.mk hs
  have HB5 := Aside0.mk (below_step HB4.out hb5)
  clear hs hb5 hgs hgw HM HG
  have HSR := Aside0.mk (src_arg HR0.out HB5.out HS5.out)
  go_wp2_with fail
  refine (run_calls HS5.out (bd_new most 0) l0 c0 HSR.out HC0.out (by have := HF1.out.1; omega) (by have := HF1.out.2; omega) (Nat.zero_le _) (Nat.zero_le _) HB5.out.size).mono ?_
  rintro e w6 ⟨vx, A6, rfl, hx6, hl6⟩
  have HM6 := Aside0.mk (Win.met hl6.str.win)
  have HV1 := Aside0.mk (show (runF (newSS most 0) l0).1.st.mv ≤ 3 * l0.flatten.length by rw [flat_len]; exact moves_most most l0)
  have HB6 := Aside0.mk (Below.trans HB5.out hl6.bel)
  clear hx6 hl6 HS5 HSR
  generalize (runF (newSS most 0) l0).1.hunt = h1 at HM6
  generalize (runF (newSS most 0) l0).1.st.mv = mv1 at HM6 HV1
  go_wp2_with fail
  refine (all_calls w6 A0 c0 l0 (Kd.C_below HR0.out HB6.out) HC0.out HF1.out.1 HF1.out.2).mono ?_
  rintro e w7 ⟨vb, rfl, hrb, hb7⟩
  have HLB := Aside0.mk (show l0.flatten.length ≤ 1500 by rw [flat_len]; exact HF1.out.1)
  generalize l0.flatten = b at hrb HLB HV1
  obtain ⟨Ab, cb, hv⟩ := Kd.R_slice hrb
  subst hv
  have HRB7 := Aside0.mk (Kd.R_bound hrb)
  have HB7 := Aside0.mk (Below.trans HB6.out (hb7.mono HB6.out.size))
  have HZ7 := Aside0.mk hb7.size
  have HM7 := Aside0.mk (HM6.out.below hb7)
  have HMG := Aside0.mk (show gm < w7.heap.size from HM7.out.lt gm rfl)
  clear hrb hb7 HM6
  go_wp2_with fail
  refine (meter_new _).mono ?_
  rintro e w8 ⟨rfl, hw8⟩
  obtain ⟨gn, hgn⟩ : ∃ gn, gn = w7.heap.size := ⟨_, rfl⟩
  have HN8 := Aside0.mk (show MAt w8 (some gn) 0 0 ((0 : Nat) : Int) 0 from fun g hg => by cases hg; rw [hw8, hgn]; exact blk_new w7 _)
  have HB8 := Aside0.mk (show Below w7.heap.size w7 w8 by rw [hw8]; exact below_alloc (Below.refl _ _) _)
  have HGN := Aside0.mk (show ∀ k, some gn = some k → w7.heap.size ≤ k from fun k e => by cases e; rw [hgn]; exact Nat.le_refl _)
  rw [← hgn]
  clear hw8 hgn
  go_wp2_with fail
  refine (stream_new (some gn) (b.length : Int) 0 w8 w7.heap.size HB8.out.size HGN.out HN8.out).mono ?_
  rintro e w9 ⟨gs2, gw2, rfl, ht, hb9, hgs2, hgw2⟩
  have HT9 := Aside0.mk ht
  have FT := Aside0.mk (foot_lt ht)
  have HB9 := Aside0.mk (Below.trans HB8.out (hb9.mono HB8.out.size))
  have HR9 := Aside0.mk (Kd.R_below HRB7.out HB9.out)
  clear ht hb9 hgs2 hgw2 HN8 HGN HB8
  go_wp2_with first
    | (at_builtin; refine Kd.R_append_rows (Kd.int .u8) (w0 := w9) (W := w9) w9.heap.size rfl (.tmp 38) (.tmp 39) 38 5 (.int .u8 0) 1 rfl Try.underlying38 Go.Proofs.Ytgiaabgmnjaefaa.Win.info5 rfl (by decide) (by decide) (.slice none 0 0) [] b Ab b.length cb (fun _ => True) (fun _ => False) rfl rfl (Kd.R_nil _ _ _ _ _) (Kd.R_reads' HR9.out).2.2 (fun _ _ h => h) (fun _ h => h.elim) (fun _ _ => trivial) (Below.refl _ _) (Nat.le_refl _) (by have := HLB.out; simp only [List.length_nil]; omega) ?_; intro v1 w10 hr1 hb1 hg1 hat1; rw [List.nil_append] at hr1; obtain ⟨A10, c10, hv10⟩ := Kd.R_slice hr1; subst hv10; have HC10 := Aside0.mk hr1; have HB10 := Aside0.mk hb1; clear hr1 hb1 hg1 hat1)
    | (at_builtin; (refine Kd.R_append_rows (Kd.int .u8) (w0 := w9) (W := w10.alloc (.cells #[.int .u8 10] 5)) w9.heap.size rfl (.tmp 41) (.tmp 42) 38 5 (.int .u8 0) 1 rfl Try.underlying38 Go.Proofs.Ytgiaabgmnjaefaa.Win.info5 rfl (by decide) (by decide) (.slice A10 b.length c10) b [10] (some ⟨w10.heap.size, 0, none⟩) 1 1 (fun _ => True) (fun _ => False) rfl rfl (Kd.R_below HC10.out (below_alloc (Below.refl _ _) _)) (const_reads w10 [10] 5 (0, 0) (by decide)) (fun _ _ h => h) (fun _ h => h.elim) (fun _ _ => trivial) (below_alloc HB10.out _) (below_alloc HB10.out _).size (by have := HLB.out; first | omega | (simp only [List.length_cons, List.length_nil]; omega)) ?_); intro v1 w11 hr1 hb1 hg1 hat1; obtain ⟨A11, c11, hv11⟩ := Kd.R_slice hr1; have hle11 : (b ++ [10]).length = b.length + 1 := (by simp); rw [hle11] at hv11; subst hv11; have HC11 := Aside0.mk hr1; have HB11 := Aside0.mk hb1; clear hr1 hb1 hg1 hat1 hle11)
  have HT11 := Aside0.mk (HT9.out.below HB11.out)
  have HR11 := Aside0.mk (Kd.R_below HR9.out HB11.out)
  have HBB11 := Aside0.mk (Below.trans HB9.out (HB11.out.mono HB9.out.size))
  have HM11 := Aside0.mk (HM7.out.below HBB11.out)
  have HZ9 := Aside0.mk HB9.out.size
  have HZ11 := Aside0.mk HB11.out.size
  have HCB := Aside0.mk (Kd.R_reads' HC11.out)
  have HFA := Aside0.mk (own_far HC11.out (Nat.succ_pos _))
  have HL11 := Aside0.mk (show (b ++ [10]).length = b.length + 1 by simp)
  have HST := Aside0.mk (step_calls (m := 0) HT11.out (bd_new _ 0) (b ++ [10]) (by have := HL11.out; have := HLB.out; omega) (by show 0 + (b ++ [10]).length ≤ 4000; have := HL11.out; have := HLB.out; omega) A11 c11 HCB.out.2.2 (by rw [HL11.out]; exact HCB.out.2.1) (by have := HZ9.out; have := HZ11.out; omega) (fun _ a2 e2 hf => by have := HFA.out a2 e2; have := FT.out _ hf; omega))
  have HWH := Aside0.mk (step_whole b.length b (Nat.le_refl _))
  rw [HL11.out] at HST
  generalize step (newSS (b.length : Int) 0) (b ++ [10]) = sw at HST HWH
  have HST0 := HT11
  clear HC10 HB10 HC11 HT9 HT11 HCB HFA
  go_wp2_with fail
  refine HST.out.mono ?_
  rintro e w12 ⟨v12, A12, rfl, hr12, hl12⟩
  have HN12 := Aside0.mk (show MAt w12 (some gn) 0 0 ((b.length : Int) + 1) 0 by
    have h1 := Win.met hl12.str.win
    rw [HWH.out.1, HWH.out.2] at h1
    exact h1)
  have HLOW := Aside0.mk (foot_low hl12.str)
  have HM12 := Aside0.mk (HM11.out.kept hl12.kept (fun k e hf => by cases e; have := foot_low HST0.out _ hf; have := HMG.out; omega))
  have HR12 := Aside0.mk (Kd.R_kept HR11.out hl12.kept (fun k hk hf => by have := foot_low HST0.out _ hf; have := hk.2.2.1; omega))
  have HC12 := Aside0.mk (Kd.R_reads' HR12.out).2.2
  have HCB := Aside0.mk (Kd.R_reads' HR12.out).2.1
  have HB12 := Aside0.mk (Below.trans HB7.out (Below.trans (HBB11.out.mono HB7.out.size) (hl12.bel.mono HB7.out.size)))
  clear hr12 hl12 HST HST0 HWH HLOW HM11 HR11 HR12 HR9 HRB7 HM7 HBB11 HZ11 HZ9 FT HL11 HB9 HB11
  go_wp2_with fail
  refine (meter_new _).mono ?_
  rintro e w13 ⟨rfl, hw13⟩
  obtain ⟨gk, hgk⟩ : ∃ gk, gk = w12.heap.size := ⟨_, rfl⟩
  have HK13 := Aside0.mk (show MAt w13 (some gk) 0 0 ((0 : Nat) : Int) 0 from fun g hg => by cases hg; rw [hw13, hgk]; exact blk_new w12 _)
  have HB13 := Aside0.mk (show Below w12.heap.size w12 w13 by rw [hw13]; exact below_alloc (Below.refl _ _) _)
  have HGK := Aside0.mk (show ∀ k, some gk = some k → w12.heap.size ≤ k from fun k e => by cases e; rw [hgk]; exact Nat.le_refl _)
  rw [← hgk]
  clear hw13 hgk
  go_wp2_with fail
  refine (stream_new (some gk) (b.length : Int) 0 w13 w12.heap.size HB13.out.size HGK.out HK13.out).mono ?_
  rintro e w14 ⟨gs3, gw3, rfl, hu, hb14, hgs3, hgw3⟩
  have H0 := Aside0.mk (show Sw w12 w14 b gs3 gw3 gk none (newSS (b.length : Int) 0) 0 from ⟨Nat.zero_le _, hu, slow_new _, bd_new _ 0, Below.trans HB13.out (hb14.mono HB13.out.size)⟩)
  clear hu hb14 hgs3 hgw3 HK13 HGK HB13
  go_wp2
  go_loopw [15, 16] (fun v15 v16 wr => ∃ (i n : Nat) (A : Option Addr) (s : SS), v16 = .int .i64 (i : Int) ∧ v15 = .int .i64 (n : Int) ∧ Aside0 (n = bareN (b.take i)) ∧ Aside0 (Sw w12 wr b gs3 gw3 gk A s i)) (fun _ v _ => b.length - (intOf v).toNat)
  case atStart => exact ⟨0, 0, none, _, rfl, rfl, ⟨rfl⟩, H0⟩
  case round =>
    clear H0
    obtain ⟨i, n, A, s, rfl, rfl, HN, HS⟩ := hrel
    by_cases hlt : i < b.length
    · have HIL := Aside0.mk hlt
      have HNI := Aside0.mk (show n ≤ 1500 by have := HS.out.slow.Ni; have := HN.out; have := HLB.out; have := HS.out.le; omega)
      obtain ⟨q1, q2, q3, q4, q5, q6⟩ := sw_w HIL.out HLB.out n HNI.out
      obtain ⟨c, hc⟩ : ∃ c, c = b[i]'HIL.out := ⟨_, rfl⟩
      have HCE := Aside0.mk hc
      obtain ⟨As, hAs⟩ : ∃ As, As = (if cb = i then Ab else Ab.map (·.add i)) := ⟨_, rfl⟩
      have hcl : ∀ W : World, (Instr.slice 38 (.slice Ab b.length cb) (some (.int .i64 (i : Int))) (some (.int .i64 ((i : Int) + 1))) none).run Try.prog W = .ok (.slice As 1 (cb - i)) W := by
        intro W
        have := cut_lh Ab b.length cb i (i + 1) (by omega) (by have := HCB.out; omega) W
        rw [← hAs, show i + 1 - i = 1 by omega, Int.natCast_add] at this
        exact this
      have hmc := mid_C (c := cb) HC12.out i (i + 1) (by omega) hlt HCB.out
      rw [← hAs, show (b.take (i + 1)).drop i = [c] by rw [List.take_succ_eq_append_getElem hlt, List.drop_append_of_le_length (by rw [List.length_take]; omega), List.drop_eq_nil_of_le (by rw [List.length_take]; omega), hc]; rfl] at hmc
      have HMC := Aside0.mk hmc
      have HFA := Aside0.mk (Met.far_of hmc (Nat.succ_pos _))
      have HST := Aside0.mk (step_calls HS.out.str HS.out.bd [c] (by have := HIL.out; have := HLB.out; simp only [List.length_cons, List.length_nil]; omega) (by have := HS.out.slow.good.held; have := HN.out; have := HNI.out; simp only [List.length_cons, List.length_nil]; omega) As (cb - i) (Kd.C_below HMC.out HS.out.bel) (by have := HCB.out; simp only [List.length_cons, List.length_nil]; omega) HS.out.bel.size (fun _ a2 e2 hf => by have := HFA.out a2 e2; have := foot_low HS.out.str _ hf; omega))
      rw [show [c].length = 1 from rfl] at HST
      have HSB := Aside0.mk (step_bd s [c] _ HS.out.bd (by have := HS.out.slow.good.held; have := HN.out; have := HNI.out; simp only [List.length_cons, List.length_nil]; omega))
      clear hlt hAs hmc hc
      go_wp2_with fail
      refine HST.out.mono ?_
      rintro e w15 ⟨v15, A15, rfl, hr15, hl15⟩
      have HST2 := Aside0.mk (step_calls hl15.str HSB.out.1 [] (by have := HIL.out; have := HLB.out; simp only [List.length_cons, List.length_nil]; omega) (by have := HSB.out.2.1; have := HS.out.slow.good.held; have := HN.out; have := HNI.out; simp only [List.length_cons, List.length_nil] at *; omega) none 0 (show Kd.C (Kd.int .u8) w15 none 0 [] from ⟨rfl, Nat.zero_le _, fun h => absurd h (by decide)⟩) (Nat.le_refl _) (Nat.le_trans HS.out.bel.size hl15.kept.1) (fun h => absurd h (by decide)))
      have HL15 := Aside0.mk hl15
      clear hr15 hl15 HST
      go_wp2_with fail
      refine HST2.out.mono ?_
      rintro e w16 ⟨v16, A16, rfl, hr16, hl16⟩
      obtain ⟨sw1, sw2⟩ := sw_step HS.out HLB.out HIL.out HCE.out.symm HL15.out hl16
      have HS2 := Aside0.mk sw1
      have HN2 := Aside0.mk sw2
      obtain ⟨adb, hab, hcb⟩ := Kd.at_int (Kd.C_below HC12.out HS2.out.bel) (i : Int) (by omega) (by have := HIL.out; omega)
      rw [show rd b (i : Int) = c by unfold rd; rw [Int.toNat_natCast, List.getD_eq_getElem?_getD, List.getElem?_eq_getElem HIL.out, HCE.out]; rfl, Int.toNat_natCast] at hcb
      clear hr16 hl16 HST2 sw1 sw2 HSB HFA HMC HL15
      subst hab
      by_cases hc : c = 10
      · have HN3 := Aside0.mk (show n = bareN (b.take (i + 1)) by rw [HN2.out, if_pos hc, ← HN.out]; rfl)
        have d1 : (c != 10) = false := bne_eq_false_iff_eq.mpr hc
        have d2 : (c == 10) = true := beq_iff_eq.mpr hc
        clear hc
        go_wp2
        go_roundw
        case rel => exact ⟨i + 1, n, A16, _, by first | rfl | exact congrArg (Value.int .i64) q1, rfl, HN3, HS2⟩
        case measure => exact ms_step HIL.out (by first | exact q1 | simp)
      · have HN3 := Aside0.mk (show n + 1 = bareN (b.take (i + 1)) by rw [HN2.out, if_neg hc, ← HN.out])
        have d1 : (c != 10) = true := bne_iff_ne.mpr hc
        have d2 : (c == 10) = false := beq_eq_false_iff_ne.mpr hc
        clear hc
        go_wp2
        go_roundw
        case rel => exact ⟨i + 1, n + 1, A16, _, by first | rfl | exact congrArg (Value.int .i64) q1, by first | rfl | exact congrArg (Value.int .i64) q2, HN3, HS2⟩
        case measure => exact ms_step HIL.out (by first | exact q1 | simp)
    · have e1 : decide ((i : Int) < (b.length : Int)) = false := decide_eq_false (by omega)
      have e2 : decide (i < b.length) = false := decide_eq_false hlt
      have hi : i = b.length := by have := HS.out.le; omega
      subst hi
      have HNB := Aside0.mk (show n ≤ b.length ∧ n ≤ s.st.mv ∧ s.st.mv ≤ 3 * n by have h1 := HS.out.slow.Ni; have h2 := HS.out.slow.lo; have h3 := HS.out.slow.good.hi; have := HN.out; omega)
      obtain ⟨q1, q2, q3, q4, q5, q6, q7⟩ := sw_e HV1.out HLB.out HNB.out.1 HNB.out.2.1 HNB.out.2.2
      have HMm := Aside0.mk (HM12.out.below HS.out.bel)
      have HMn := Aside0.mk (HN12.out.below HS.out.bel)
      have HMk := Aside0.mk (show MAt wr (some gk) 0 0 (b.length : Int) (s.st.mv : Int) by have := Win.met HS.out.str.win; rw [HS.out.slow.hunt] at this; exact this)
      have HBW := Aside0.mk (Below.trans HB12.out (HS.out.bel.mono HB12.out.size))
      have hfd := fun a b c d W => (fieldC a b c d W).2.2.1
      have hfd3 := fun a b c d W => (fieldC a b c d W).2.2.2
      have heq := eqC 9998
      have heq0 := eqC 0
      clear hlt
      generalize s.st.mv = mv3 at q3 q4 q5 q6 q7 HMk HNB
      clear HS HN
      go_wp2_with fail
      refine (counts_any gm 0 0 (h1 : Int) (mv1 : Int) wr HMm.out).mono ?_
      rintro e w15 ⟨rfl, hb15⟩
      have HB15 := Aside0.mk hb15
      clear hb15
      go_wp2_with fail
      refine (counts_any gn 0 0 ((b.length : Int) + 1) 0 w15 (HMn.out.below HB15.out)).mono ?_
      rintro e w16 ⟨rfl, hb16⟩
      have HB16 := Aside0.mk (Below.trans HB15.out (hb16.mono HB15.out.size))
      clear hb16
      go_wp2_with fail
      refine (counts_any gk 0 0 (b.length : Int) (mv3 : Int) w16 (HMk.out.below HB16.out)).mono ?_
      rintro e w17 ⟨rfl, hb17⟩
      have HB17 := Aside0.mk (Below.trans HB16.out (hb17.mono HB16.out.size))
      clear hb17
      go_wp2_with fail
      refine (counts_any gk 0 0 (b.length : Int) (mv3 : Int) w17 (HMk.out.below HB17.out)).mono ?_
      rintro e w18 ⟨rfl, hb18⟩
      have HB18 := Aside0.mk (Below.trans HB17.out (hb18.mono HB17.out.size))
      clear hb18
      go_wp2_with fail
      refine (counts_any gk 0 0 (b.length : Int) (mv3 : Int) w18 (HMk.out.below HB18.out)).mono ?_
      rintro e w19 ⟨rfl, hb19⟩
      have HB19 := Aside0.mk (Below.trans HB18.out (hb19.mono HB18.out.size))
      clear hb19
      go_wp2
      go_ret
      exact ⟨rfl, Below.trans HBW.out (HB19.out.mono HBW.out.size)⟩
end Go.Proofs.Ytgiaabgmnjaefaa.Str
