/- StreamOver: behind its end a stream reads, tells and changes nothing. -/
import Derived.Test.YtgiaabgmnjaefaaStrK
namespace Go.Proofs.Ytgiaabgmnjaefaa.Str
open Go Go.RowKit Go.Proofs Go.Proofs.Ytgiaabgmnjaefaa.Met Go.Proofs.Ytgiaabgmnjaefaa.Win Go.Proofs.YtgiaabgmnjaefaaW.PrintWords Go.Proofs.YtgiaabgmnjaefaaW.PrintMore
set_option linter.unusedVariables false
set_option linter.unusedSimpArgs false
attribute [local go_sem] max2_int min2_int max_two min_two max_three min_three
theorem endS_over (s : SS) : (endS s).1.over = true := by
  unfold endS
  split
  · assumption
  · split
    · rfl
    · rfl
theorem runs_over : ∀ (L : List (List Int)) (s : SS), s.over = true → runs s L = (s, [])
  | [], s, h => rfl
  | c :: L, s, h => by
    rw [runs, show step s c = (s, []) from if_pos h]
    show ((runs s L).1, [] ++ (runs s L).2) = _
    rw [runs_over L s h]
    rfl
theorem runF_over (L : List (List Int)) (s : SS) (h : s.over = true) : runF s L = (s, []) := by
  unfold runF
  rw [runs_over L s h]
  show ((endS s).1, [] ++ (endS s).2) = _
  rw [show endS s = (s, []) from if_pos h]
  rfl
theorem runF_bd (L : List (List Int)) (s : SS) (m : Nat) (h : Bd s m) (hl : s.st.held.length + tot L ≤ 5000) : Bd (runF s L).1 (m + 2 * tot L + L.length + 1) ∧ (runF s L).1.st.held.length ≤ s.st.held.length + tot L := by
  obtain ⟨q1, q2, q3⟩ := runs_bd L s m h hl
  obtain ⟨r1, r2, r3⟩ := endS_bd (runs s L).1 _ q1 (by omega)
  exact ⟨r1, by show (endS (runs s L).1).1.st.held.length ≤ _; omega⟩
set_option maxHeartbeats 16000000 in
set_option maxRecDepth 100000 in
theorem over_calls (A0 A2 : Option Addr) (c0 c2 : Nat) (l0 l2 : List (List Int)) (most : Int) (w : World) (hr0 : Kd.C kB w A0 l0.length l0) (hc0 : l0.length ≤ c0) (hr2 : Kd.C kB w A2 l2.length l2) (hc2 : l2.length ≤ c2) :
    Calls Try.prog 6 #[.slice A0 l0.length c0, .int .i64 most, .slice A2 l2.length c2] w fun e w' => e = .returned (.bool true) ∧ Below w.heap.size w w' := by
  have HR0 := Aside0.mk hr0
  have HC0 := Aside0.mk hc0
  have HR2 := Aside0.mk hr2
  have HC2 := Aside0.mk hc2
  clear hr0 hc0 hr2 hc2
  go_enter Try.func6, Try.ntmps6
  go_wp2_with fail
  refine (awake_calls _).mono ?_
  rintro e w1 ⟨rfl, hb1⟩
  have HB1 := Aside0.mk hb1
  clear hb1
  go_wp2_with fail
  refine (few_calls _ A0 c0 l0 (Kd.C_below HR0.out HB1.out) HC0.out).mono ?_
  rintro e w2 ⟨v, rfl, r1, rfl, hb2, hq1⟩
  have HB2 := Aside0.mk (below_step HB1.out hb2)
  have HQ1 := Aside0.mk hq1
  clear hb2 hq1
  cases r1 with
  | false =>
    go_wp2
    go_ret
    exact ⟨rfl, HB2.out⟩
  | true =>
  have HF1 := Aside0.mk (HQ1.out rfl)
  clear HQ1
  go_wp2_with fail
  refine (few_calls _ A2 c2 l2 (Kd.C_below HR2.out HB2.out) HC2.out).mono ?_
  rintro e w3 ⟨v, rfl, r2, rfl, hb3, hq2⟩
  have HB3 := Aside0.mk (below_step HB2.out hb3)
  have HQ2 := Aside0.mk hq2
  clear hb3 hq2
  cases r2 with
  | false =>
    go_wp2
    go_ret
    exact ⟨rfl, HB3.out⟩
  | true =>
  have HF2 := Aside0.mk (HQ2.out rfl)
  clear HQ2
  go_wp2_with fail
  refine (meter_new _).mono ?_
  rintro e w4 ⟨rfl, hw4⟩
  obtain ⟨gm, hgm⟩ : ∃ gm, gm = w3.heap.size := ⟨_, rfl⟩
  have HM := Aside0.mk (show MAt w4 (some gm) 0 0 ((0 : Nat) : Int) 0 from fun g hg => by cases hg; rw [hw4, hgm]; exact blk_new w3 _)
  have HB4 := Aside0.mk (show Below w.heap.size w w4 by rw [hw4]; exact below_alloc HB3.out _)
  have HG := Aside0.mk (show ∀ k, some gm = some k → w.heap.size ≤ k from fun k e => by cases e; rw [hgm]; exact HB3.out.size)
  rw [← hgm]
  clear hw4 hgm
  go_wp2_with fail
  refine (stream_new (some gm) most 0 w4 w.heap.size HB4.out.size HG.out HM.out).mono ?_
  rintro e w5 ⟨gs, gw, rfl, hs, hb5, hgs, hgw⟩
  have HS := Aside0.mk hs
  have HB5 := Aside0.mk (below_step HB4.out hb5)
  clear hs hb5 hgs hgw
  go_wp2_with fail
  refine (run_calls HS.out (bd_new most 0) l0 c0 (src_arg HR0.out HB5.out HS.out) HC0.out (by have := HF1.out.1; omega) (by have := HF1.out.2; omega) (Nat.zero_le _) (Nat.zero_le _) HB5.out.size).mono ?_
  rintro e w6 ⟨v6, A6, rfl, _, hl6⟩
  have HBD := Aside0.mk (runF_bd l0 (newSS most 0) 0 (bd_new most 0) (by have := HF1.out.1; show 0 + _ ≤ _; omega))
  have HOV := Aside0.mk (show (runF (newSS most 0) l0).1.over = true from endS_over _)
  generalize (runF (newSS most 0) l0).1 = s1 at hl6 HBD HOV
  have HL6 := Aside0.mk hl6
  have HB6 := Aside0.mk (Below.trans HB5.out hl6.bel)
  clear hl6
  go_wp2_with fail
  refine (counts_any gm 0 0 (s1.hunt : Int) (s1.st.mv : Int) w6 (Win.met HL6.out.str.win)).mono ?_
  rintro e w7 ⟨rfl, hb7⟩
  have HS7 := Aside0.mk (HL6.out.str.below hb7)
  have HB7 := Aside0.mk (Below.trans HB6.out (hb7.mono HB6.out.size))
  clear hb7
  have HBX := Aside0.mk (below_alloc (Below.refl w7.heap.size w7) (.cells #[.int .i64 0, .int .i64 0, .int .i64 (s1.hunt : Int), .int .i64 (s1.st.mv : Int)] 44))
  have HC8 := Aside0.mk (blk_new w7 (.cells #[.int .i64 0, .int .i64 0, .int .i64 (s1.hunt : Int), .int .i64 (s1.st.mv : Int)] 44))
  have HS8 := Aside0.mk (HS7.out.below HBX.out)
  have HB8 := Aside0.mk (Below.trans HB7.out (HBX.out.mono HB7.out.size))
  have HFT := Aside0.mk (show ¬ Foot gs gw (some gm) A6 w7.heap.size from fun hf => by have := foot_lt HS7.out _ hf; omega)
  have HXL := Aside0.mk (show w.heap.size ≤ w7.heap.size from HB7.out.size)
  clear HBX HS7
  go_wp2_with fail
  generalize w7.alloc (.cells #[.int .i64 0, .int .i64 0, .int .i64 (s1.hunt : Int), .int .i64 (s1.st.mv : Int)] 44) = w8 at HC8 HS8 HB8 ⊢
  generalize w7.heap.size = gc at HC8 HFT HXL ⊢
  refine (err_some HS8.out).mono ?_
  rintro e w9 ⟨rfl, hb9⟩
  obtain ⟨er, her⟩ : ∃ er : Int, er = (if s1.bad = 0 then 0 else (s1.num : Int)) := ⟨_, rfl⟩
  rw [← her]
  have HER := Aside0.mk her
  clear her
  have HS9 := Aside0.mk (HS8.out.below hb9)
  have HC9 := Aside0.mk (blk_below HC8.out hb9)
  have HB9 := Aside0.mk (Below.trans HB8.out (hb9.mono HB8.out.size))
  clear hb9 HC8 HS8 HB8
  have HSR := Aside0.mk (src_arg HR2.out HB9.out HS9.out)
  go_wp2_with fail
  refine (run_calls HS9.out HBD.out.1 l2 c2 HSR.out HC2.out (by have := HF2.out.1; omega) (by have := HF2.out.2; omega) (by have := HF1.out; omega) (by have := HBD.out.2; have := HF1.out; have h0 : (newSS most 0).st.held.length = 0 := rfl; omega) HB9.out.size).mono ?_
  rintro e w10 ⟨v10, A10, rfl, hr10, hl10⟩
  rw [runF_over l2 s1 HOV.out] at hr10 hl10
  obtain ⟨Ax, cx, hv⟩ := Kd.R_slice hr10
  subst hv
  have HS10 := Aside0.mk (show StrAt w10 w.heap.size gs gw (some gm) A10 s1 from hl10.str)
  have HC10 := Aside0.mk (blk_kept HC9.out hl10.kept HFT.out)
  have HB10 := Aside0.mk (Below.trans HB9.out hl10.bel)
  clear hr10 hl10 HSR
  go_wp2_with fail
  refine (err_some HS10.out).mono ?_
  rintro e w11 ⟨rfl, hb11⟩
  rw [← HER.out]
  have HS11 := Aside0.mk (HS10.out.below hb11)
  have HC11 := Aside0.mk (blk_below HC10.out hb11)
  have HB11 := Aside0.mk (Below.trans HB10.out (hb11.mono HB10.out.size))
  clear hb11 HS10 HC10 HB10 HC9 HS9 HB9
  go_wp2_with fail
  have heq := eqC 9998
  have k0 := (blk_cell HC11.out 0).trans (show _ = some (Value.int .i64 0) from rfl)
  have k1 := (blk_cell HC11.out 1).trans (show _ = some (Value.int .i64 0) from rfl)
  have k2 := (blk_cell HC11.out 2).trans (show _ = some (Value.int .i64 (s1.hunt : Int)) from rfl)
  have k3 := (blk_cell HC11.out 3).trans (show _ = some (Value.int .i64 (s1.st.mv : Int)) from rfl)
  go_region_held3 (fun w' => w'.cell? ⟨gc, 0, none⟩ = some (.int .i64 0) ∧ w'.cell? ⟨gc, 1, none⟩ = some (.int .i64 0) ∧ w'.cell? ⟨gc, 2, none⟩ = some (.int .i64 (s1.hunt : Int)) ∧ w'.cell? ⟨gc, 3, none⟩ = some (.int .i64 (s1.st.mv : Int)))
    (first | exact ⟨k0, k1, k2, k3⟩ | go_keep)
    ((first
      | (go_at_call 19; refine (counts_any gm 0 0 (s1.hunt : Int) (s1.st.mv : Int) _ (Win.met (HS11.out.below (below_drew (Below.refl _ _))).win)).mono ?_; rintro e w12 ⟨rfl, hb12⟩; have HBB := Aside0.mk (Below.trans (Below.drew (Below.refl w11.heap.size w11)) hb12); have HC12 := Aside0.mk (blk_below HC11.out HBB.out); clear k0 k1 k2 k3 hb12; have k0 := (blk_cell HC12.out 0).trans (show _ = some (Value.int .i64 0) from rfl); have k1 := (blk_cell HC12.out 1).trans (show _ = some (Value.int .i64 0) from rfl); have k2 := (blk_cell HC12.out 2).trans (show _ = some (Value.int .i64 (s1.hunt : Int)) from rfl); have k3 := (blk_cell HC12.out 3).trans (show _ = some (Value.int .i64 (s1.st.mv : Int)) from rfl))))
  go_wp2
  go_ret
  exact ⟨rfl, Below.trans HB11.out (HBB.out.mono HB11.out.size)⟩
end Go.Proofs.Ytgiaabgmnjaefaa.Str
