/- StreamPieces: however bytes are cut, the lines are the same. -/
import Derived.Test.YtgiaabgmnjaefaaStrQ
namespace Go.Proofs.Ytgiaabgmnjaefaa.Str
open Go Go.RowKit Go.Proofs Go.Proofs.Ytgiaabgmnjaefaa.Met Go.Proofs.Ytgiaabgmnjaefaa.Win Go.Proofs.YtgiaabgmnjaefaaW.PrintWords Go.Proofs.YtgiaabgmnjaefaaW.PrintMore
set_option linter.unusedVariables false
set_option linter.unusedSimpArgs false
attribute [local go_sem] max2_int min2_int max_two min_two max_three min_three
/-- one chunk, as a row of its own -/
theorem src_one {w : World} {gs gw : Nat} {M : Option Nat} {A Ab : Option Addr} {b : List Int} {cb : Nat} (hlt : ∀ k, Foot gs gw M A k → k < w.heap.size) (hC : Kd.C (Kd.int .u8) w Ab b.length b) (hcb : b.length ≤ cb) (hf : 0 < b.length → ∀ a2, Ab = some a2 → ¬ Foot gs gw M A a2.block) : Src (w.alloc (.cells #[.slice Ab b.length cb] 38)) gs gw M A (some ⟨w.heap.size, 0, none⟩) [b] := by
  intro i hi
  have h0 : i = 0 := by have := hi; simp only [List.length_cons, List.length_nil] at this; omega
  subst h0
  exact ⟨_, _, _, rfl, fun h => by have := hlt _ h; simp at this, blk_cell (blk_new w (.cells #[.slice Ab b.length cb] 38)) 0, hcb, Kd.C_alloc hC _, hf⟩
theorem own_far {w : World} {base c n : Nat} {A : Option Addr} {b : List Int} {ok : Nat → Prop} (h : Kd.R (Kd.int .u8) 5 w base ok (.slice A n c) b) (hp : 0 < n) : ∀ a2, A = some a2 → base ≤ a2.block := by
  intro a2 e
  subst e
  obtain ⟨g, cap, hv, _⟩ := Kd.R_form h (by
    obtain ⟨A', c', he, _⟩ := Kd.R_reads h
    injection he with _ he2
    omega)
  injection hv with hv _ _
  cases hv
  exact Kd.R_base h g rfl
set_option maxHeartbeats 16000000 in
set_option maxRecDepth 100000 in
theorem pieces_calls (A0 : Option Addr) (c0 : Nat) (l0 : List (List Int)) (most : Int) (w : World) (hr0 : Kd.C kB w A0 l0.length l0) (hc0 : l0.length ≤ c0) :
    Calls Try.prog 4 #[.slice A0 l0.length c0, .int .i64 most] w fun e w' => e = .returned (.bool true) ∧ Below w.heap.size w w' := by
  have HR0 := Aside0.mk hr0
  have HC0 := Aside0.mk hc0
  clear hr0 hc0
  go_enter Try.func4, Try.ntmps4
  go_wp2_with fail
  refine (awake_calls _).mono ?_
  rintro e w1 ⟨rfl, hb1⟩
  have HB1 := Aside0.mk hb1
  clear hb1
  go_wp2_with fail
  refine (few_calls _ A0 c0 l0 (Kd.C_below HR0.out HB1.out) HC0.out).mono ?_
  rintro e w2 ⟨v, rfl, r1, rfl, hb2, hq1⟩
  have HB2 := Aside0.mk (below_step HB1.out hb2)
  have HQ1 := Aside0.mk hq1
  clear hb2 hq1
  cases r1 with
  | false =>
    go_wp2
    go_ret
    exact ⟨rfl, HB2.out⟩
  | true =>
  have HF1 := Aside0.mk (HQ1.out rfl)
  clear HQ1
  go_wp2_with fail
  refine (meter_new _).mono ?_
  rintro e w4 ⟨rfl, hw4⟩
  obtain ⟨gm, hgm⟩ : ∃ gm, gm = w2.heap.size := ⟨_, rfl⟩
  have HM := Aside0.mk (show MAt w4 (some gm) 0 0 ((0 : Nat) : Int) 0 from fun g hg => by cases hg; rw [hw4, hgm]; exact blk_new w2 _)
  have HB4 := Aside0.mk (show Below w.heap.size w w4 by rw [hw4]; exact below_alloc HB2.out _)
  have HG := Aside0.mk (show ∀ k, some gm = some k → w.heap.size ≤ k from fun k e => by cases e; rw [hgm]; exact HB2.out.size)
  rw [← hgm]
  clear hw4 hgm
  go_wp2_with fail
  refine (stream_new (some gm) most 0 w4 w.heap.size HB4.out.size HG.out HM.out).mono ?_
  rintro e w5 ⟨gs, gw, rfl, hs, hb5, hgs, hgw⟩
  have HS5 := Aside0.mk hs
  have HB5 := Aside0.mk (below_step HB4.out hb5)
  have FS := Aside0.mk (foot_lt hs)
  clear hs hb5 hgs hgw HM HG
  go_wp2_with fail
  refine (stream_new none most 0 w5 w5.heap.size (Nat.le_refl _) (fun k e => by cases e) (fun g hg => by cases hg)).mono ?_
  rintro e w6 ⟨gs2, gw2, rfl, ht, hb6, hgs2, hgw2⟩
  have HT6 := Aside0.mk ht
  have FT := Aside0.mk (foot_lt ht)
  have HS6 := Aside0.mk (HS5.out.below hb6)
  have HB6 := Aside0.mk (Below.trans HB5.out (hb6.mono HB5.out.size))
  have HZ6 := Aside0.mk hb6.size
  clear ht hb6 hgs2 hgw2 HS5
  go_wp2_with fail
  refine (all_calls w6 A0 c0 l0 (Kd.C_below HR0.out HB6.out) HC0.out HF1.out.1 HF1.out.2).mono ?_
  rintro e w7 ⟨vb, rfl, hrb, hb7⟩
  have HLB := Aside0.mk (show l0.flatten.length ≤ 1500 by rw [flat_len]; exact HF1.out.1)
  have P1 := Aside0.mk (runF_new most l0)
  have P2 := Aside0.mk (runF_new most [l0.flatten])
  rw [show [l0.flatten].flatten = l0.flatten by simp] at P2
  generalize l0.flatten = b at hrb HLB P1 P2
  obtain ⟨Ab, cb, hv⟩ := Kd.R_slice hrb
  subst hv
  have HRB7 := Aside0.mk hrb
  have HS7 := Aside0.mk (HS6.out.below hb7)
  have HT7 := Aside0.mk (HT6.out.below hb7)
  have HB7 := Aside0.mk (Below.trans HB6.out (hb7.mono HB6.out.size))
  have HZ7 := Aside0.mk hb7.size
  clear hrb hb7 HS6 HT6
  go_wp2_with fail
  refine (run_calls HS7.out (bd_new most 0) l0 c0 (src_arg HR0.out HB7.out HS7.out) HC0.out (by have := HF1.out.1; omega) (by have := HF1.out.2; omega) (Nat.zero_le _) (Nat.zero_le _) HB7.out.size).mono ?_
  rintro e w8 ⟨vx, A8, rfl, hx8, hl8⟩
  rw [P1.out.2] at hx8
  generalize (runF (newSS most 0) l0).1 = s1 at hl8 P1
  have P1S := Aside0.mk P1.out.1
  have P2S := Aside0.mk P2.out.1
  have P2L := Aside0.mk P2.out.2
  clear P1 P2
  have HH := Aside0.mk (coB_hunt (mostN most) b newCo)
  have HE := Aside0.mk (coE_hunt (coB (mostN most) newCo b))
  generalize hX : lnB (mostN most) newCo b ++ lnE (coB (mostN most) newCo b) = X at hx8 P2L
  generalize hca : coE (coB (mostN most) newCo b) = ca at P1S P2S HE
  clear hX hca
  have HX8 := Aside0.mk hx8
  have HL8 := Aside0.mk hl8
  have HT8 := Aside0.mk (HT7.out.kept hl8.kept (fun k hk hs => by have := foot_low HT7.out k hk; have := FS.out k hs; omega))
  have HRB8 := Aside0.mk (Kd.R_kept (Kd.R_bound HRB7.out) hl8.kept (fun k hk hs => by have := hk.2.1; have := FS.out k hs; have := HZ6.out; omega))
  have HB8 := Aside0.mk (Below.trans HB7.out hl8.bel)
  clear hx8 hl8 HS7 HRB7
  obtain ⟨Ax, cx, hv⟩ := Kd.R_slice HX8.out
  subst hv
  have HSRC := Aside0.mk (src_one (w := w8) (gs := gs2) (gw := gw2) (M := none) (A := none) (Ab := Ab) (b := b) (cb := cb) (foot_lt HT8.out) (Kd.R_reads' HRB8.out).2.2 (Kd.R_reads' HRB8.out).2.1 (fun hp a2 e2 hf => by
    have := own_far HRB8.out hp a2 e2
    have := FT.out _ hf; omega))
  have HT8a := Aside0.mk (HT8.out.below (below_alloc (Below.refl _ _) (.cells #[.slice Ab b.length cb] 38)))
  have HZ8 := Aside0.mk (show w5.heap.size ≤ w8.heap.size from by have := HZ6.out; have := HZ7.out; have := HL8.out.kept.1; omega)
  go_wp2_with fail
  refine (run_calls HT8a.out (bd_new most 0) [b] 1 HSRC.out (Nat.le_refl _) (by have := HLB.out; simp only [tot]; omega) (by show 1 ≤ 300; decide) (Nat.zero_le _) (Nat.zero_le _) (by have := HZ8.out; rw [World.size_alloc]; omega)).mono ?_
  rintro e w9 ⟨vy, A9, rfl, hy9, hl9⟩
  rw [P2L.out] at hy9
  generalize (runF (newSS most 0) [b]).1 = t1 at hl9 P2S
  have HW8 := Aside0.mk (below_alloc (Below.refl w8.heap.size w8) (.cells #[.slice Ab b.length cb] 38))
  have HS9 := Aside0.mk ((HL8.out.str.below HW8.out).kept hl9.kept (fun k hk hk2 => by
    have h1 := foot_low HT7.out k hk2
    have h2 := foot_lt HT7.out k hk2
    rcases HL8.out.foot k hk with h3 | h3
    · have := FS.out k h3; omega
    · omega))
  have HX9 := Aside0.mk (Kd.R_kept (Kd.R_below (Kd.R_bound HX8.out) HW8.out) hl9.kept (fun k hk hk2 => by
    have h2 := foot_lt HT7.out k hk2
    have := hk.2.1
    omega))
  obtain ⟨Ay, cy, hv⟩ := Kd.R_slice hy9
  subst hv
  have HY9 := Aside0.mk (Kd.R_reads' hy9)
  have HXR := Aside0.mk (Kd.R_reads' HX9.out)
  have HT9 := Aside0.mk hl9.str
  have HB9 := Aside0.mk (Below.trans HB8.out (Below.trans (HW8.out.mono HB8.out.size) (hl9.bel.mono (by exact HB5.out.size))))
  clear hy9 hl9 HX9 HX8 HL8 HSRC HT8a HRB8 HT8 HT7
  have HHU := Aside0.mk (show s1.hunt ≤ b.length ∧ (t1.bad = 0 → s1.hunt = b.length) by
    have h1 := P1S.out.hunt
    have h2 := P2S.out.bad
    have h3 := HE.out.1
    have h4 := HE.out.2
    have h5 := HH.out.1
    have h6 := HH.out.2 rfl rfl
    have h7 : newCo.hunt = 0 := rfl
    refine ⟨by omega, fun hb => ?_⟩
    have := (h6 (by rw [← h4, h2, hb])).1
    omega)
  have E1 := Aside0.mk (err_some HS9.out)
  have E2 := Aside0.mk (fun (w' : World) (hb : Below w9.heap.size w9 w') => err_some (HT9.out.below hb))
  rw [show s1.bad = t1.bad from P1S.out.bad.symm.trans P2S.out.bad, show s1.num = t1.num from P1S.out.num.symm.trans P2S.out.num] at E1
  generalize t1.bad = bd at E1 E2 HHU
  generalize (if bd = 0 then 0 else (t1.num : Int)) = er at E1 E2
  clear P1S P2S HH HE
  go_wp2_with fail
  refine E1.out.mono ?_
  rintro e w10 ⟨rfl, hb10⟩
  have E3 := Aside0.mk (E2.out _ hb10)
  have HS10 := Aside0.mk (HS9.out.below hb10)
  have HXC := Aside0.mk (Kd.C_below HXR.out.2.2 hb10)
  have HYC := Aside0.mk (Kd.C_below HY9.out.2.2 hb10)
  have HB10 := Aside0.mk (Below.trans HB9.out (hb10.mono HB9.out.size))
  clear hb10 HS9 HT9 E1 E2
  go_wp2_with fail
  refine E3.out.mono ?_
  rintro e w11 ⟨rfl, hb11⟩
  have HS11 := Aside0.mk (HS10.out.below hb11)
  have HXC2 := Aside0.mk (Kd.C_below HXC.out hb11)
  have HYC2 := Aside0.mk (Kd.C_below HYC.out hb11)
  have HB11 := Aside0.mk (Below.trans HB10.out (hb11.mono HB10.out.size))
  clear hb11 HS10 HXC HYC E3
  go_wp2_with fail
  refine (same_calls w11 Ax Ay cx cy X X.length rfl HXC2.out HYC2.out HXR.out.2.1 HY9.out.2.1).mono ?_
  rintro e w12 ⟨rfl, hb12⟩
  have HS12 := Aside0.mk (HS11.out.below hb12)
  have HB12 := Aside0.mk (Below.trans HB11.out (hb12.mono HB11.out.size))
  clear hb12 HS11 HXC2 HYC2
  have hfd := fun a b c d W => (fieldC a b c d W).2.2.1
  have d1 : decide ((s1.hunt : Int) ≤ (b.length : Int)) = true := decide_eq_true (by have := HHU.out.1; omega)
  have d1p : s1.hunt ≤ b.length := HHU.out.1
  have d1n : decide (s1.hunt ≤ b.length) = true := decide_eq_true d1p
  go_wp2_with fail
  refine (counts_any gm 0 0 (s1.hunt : Int) (s1.st.mv : Int) w12 (Win.met HS12.out.win)).mono ?_
  rintro e w13 ⟨rfl, hb13⟩
  have HS13 := Aside0.mk (HS12.out.below hb13)
  have HB13 := Aside0.mk (Below.trans HB12.out (hb13.mono HB12.out.size))
  clear hb13 HS12
  by_cases hbd : bd = 0
  · have HBE := Aside0.mk (HHU.out.2 hbd)
    subst hbd
    have d2 : ((s1.hunt : Int) == (b.length : Int)) = true := by rw [HBE.out]; exact beq_self_eq_true _
    go_wp2_with fail
    refine (counts_any gm 0 0 (s1.hunt : Int) (s1.st.mv : Int) w13 (Win.met HS13.out.win)).mono ?_
    rintro e w14 ⟨rfl, hb14⟩
    have HB14 := Aside0.mk (Below.trans HB13.out (hb14.mono HB13.out.size))
    clear hb14
    go_wp2
    go_ret
    exact ⟨rfl, HB14.out⟩
  · have d2 : (bd != 0) = true := bne_iff_ne.mpr hbd
    go_wp2
    go_ret
    exact ⟨rfl, HB13.out⟩
end Go.Proofs.Ytgiaabgmnjaefaa.Str
