/- StreamPlays, end true. -/
import Derived.Test.YtgiaabgmnjaefaaRefH
import Derived.Test.YtgiaabgmnjaefaaWinU
namespace Go.Proofs.Ytgiaabgmnjaefaa.Str
open Go Go.RowKit Go.Proofs Go.Proofs.Ytgiaabgmnjaefaa.Met Go.Proofs.Ytgiaabgmnjaefaa.Win Go.Proofs.YtgiaabgmnjaefaaW.PrintWords Go.Proofs.YtgiaabgmnjaefaaW.PrintMore Go.Proofs.Ytgiaabgmnjaefaa.Aid
set_option linter.unusedVariables false
set_option linter.unusedSimpArgs false
attribute [local go_sem] max2_int min2_int max_two min_two max_three min_three
set_option maxHeartbeats 16000000 in
set_option maxRecDepth 100000 in
theorem plays_t (A0 : Option Addr) (c0 : Nat) (l0 : List (List Int)) (most : Int) (w : World) (hr0 : Kd.C kB w A0 l0.length l0) (hc0 : l0.length ≤ c0) (hby : ∀ x ∈ l0, Byt x) :
    Calls Try.prog 3 #[.slice A0 l0.length c0, .int .i64 most, .bool true] w fun e w' => e = .returned (.bool true) ∧ Below w.heap.size w w' := by
  have HR0 := Aside0.mk hr0
  have HC0 := Aside0.mk hc0
  have HBY := Aside0.mk hby
  have hz := zero33
  clear hr0 hc0 hby
  go_enter Try.func3, Try.ntmps3
  go_wp2_with fail
  refine (awake_calls _).mono ?_
  rintro e w1 ⟨rfl, hb1⟩
  have HB1 := Aside0.mk hb1
  clear hb1
  go_wp2_with fail
  refine (few_calls _ A0 c0 l0 (Kd.C_below HR0.out HB1.out) HC0.out).mono ?_
  rintro e w2 ⟨v, rfl, r1, rfl, hb2, hq1⟩
  have HB2 := Aside0.mk (below_step HB1.out hb2)
  have HQ1 := Aside0.mk hq1
  clear hb2 hq1
  cases r1 with
  | false =>
    go_wp2
    go_ret
    exact ⟨rfl, HB2.out⟩
  | true =>
  have HF1 := Aside0.mk (HQ1.out rfl)
  clear HQ1
  go_wp2_with fail
  refine (meter_new _).mono ?_
  rintro e w4 ⟨rfl, hw4⟩
  obtain ⟨gm, hgm⟩ : ∃ gm, gm = w2.heap.size := ⟨_, rfl⟩
  have HM := Aside0.mk (show MAt w4 (some gm) 0 0 ((0 : Nat) : Int) 0 from fun g hg => by cases hg; rw [hw4, hgm]; exact blk_new w2 _)
  have HB4 := Aside0.mk (show Below w.heap.size w w4 by rw [hw4]; exact below_alloc HB2.out _)
  have HG := Aside0.mk (show ∀ k, some gm = some k → w.heap.size ≤ k from fun k e => by cases e; rw [hgm]; exact HB2.out.size)
  rw [← hgm]
  clear hw4 hgm
  go_wp2_with fail
  refine (stream_new (some gm) most 0 w4 w.heap.size HB4.out.size HG.out HM.out).mono ?_
  rintro e w5 ⟨gs, gw, rfl, hs, hb5, hgs, hgw⟩
  have HS5 := Aside0.mk hs
  have HB5 := Aside0.mk (below_step HB4.out hb5)
  clear hs hb5 hgs hgw HM HG
  go_wp2_with fail
  refine (ref_new most w5).mono ?_
  rintro e w6 ⟨rfl, hb6⟩
  have HS6 := Aside0.mk (HS5.out.below hb6)
  have HB6 := Aside0.mk (below_step HB5.out hb6)
  have HP := Aside0.mk (pl_new (L := l0) HB6.out HS6.out)
  have HN6 := Aside0.mk (blk_new w6 (.cells z9 33))
  have HZ6 := Aside0.mk (And.intro (refA_size (newSS most 0)) (refA_one (newSS most 0)))
  clear hb6 HS5 HS6
  obtain ⟨r6, hr6⟩ : ∃ r6, r6 = refA (newSS most 0) := ⟨_, rfl⟩
  rw [← hr6] at HP HZ6 ⊢
  obtain ⟨s0, hs0⟩ : ∃ s0, s0 = newSS most 0 := ⟨_, rfl⟩
  rw [← hs0] at HP
  clear hr6 hs0
  go_wp2_with (first
    | (with_reducible refine st33_ (.tmp 11) (.tmp 34) w6.heap.size r6 z9 ?_ ?_ ?_ ?_ ?_ ?_ ?_ ?_ ?_; exact rfl; exact rfl; exact rfl; kernel_rfl; kernel_rfl; exact HN6.out; exact HZ6.out; exact z9_size))
  obtain ⟨gb, hgb⟩ : ∃ gb, gb = w6.heap.size := ⟨_, rfl⟩
  rw [← hgb] at HP ⊢
  clear hgb HN6 HZ6
  go_loopw [13] (fun v13 wr => ∃ (i : Nat) (A : Option Addr) (s : SS), v13 = .int .i64 (i : Int) ∧ Aside0 (Pl w wr l0 gs gw gm gb i A s)) (fun v _ => l0.length + 1 - (intOf v).toNat)
  case atStart => exact ⟨0, none, s0, rfl, HP⟩
  case round =>
    clear HP
    obtain ⟨i, A, s, rfl, HP⟩ := hrel
    have hle := HP.out.le
    by_cases hi : i < l0.length
    · have e1 : decide ((i : Int) ≤ (l0.length : Int)) = true := decide_eq_true (by omega)
      have e2 : decide (i ≤ l0.length) = true := decide_eq_true (by omega)
      have e3 : decide ((i : Int) < (l0.length : Int)) = true := decide_eq_true (by omega)
      have e4 : decide (i < l0.length) = true := decide_eq_true (by omega)
      have HI := Aside0.mk hi
      clear hi hle
      cases hq : ((i : Int) == wrap64 ((l0.length : Int) / 2)) with
      | false =>
        have HIL := Aside0.mk (Nat.le_of_lt HI.out)
        have HTT := Aside0.mk (tot_take_le l0 (i + 1))
        have HTK := Aside0.mk (tot_take l0 i HI.out)
        obtain ⟨ad, Ab, cb, rfl, pf, p0, p1, p2, p3⟩ := src_arg HR0.out HP.out.bel HP.out.str i HI.out
        have HPL := Aside0.mk (fun w2 A1 v u (h : Pn w w2 gs gw gm gb A1 (step s (l0[i]'HI.out)).1 v u (step s (l0[i]'HI.out)).2) => pl_step HP.out HI.out HF1.out.1 h)
        have HRX := Aside0.mk (fun W (hb : Below w.heap.size w W) => row_at (Kd.C_below HR0.out hb) i HI.out)
        have HBX := Aside0.mk (HBY.out _ (List.getElem_mem HI.out))
        generalize (l0[i]'HI.out) = x at p0 p1 p2 p3 HPL HRX HBX HTK
        have HST := Aside0.mk (step_calls HP.out.str HP.out.bd x (by have := HTT.out; have := HTK.out; have := HF1.out; have := HIL.out; omega) (by have := HP.out.held; have := HTT.out; have := HTK.out; have := HF1.out; omega) Ab cb p2 p1 HP.out.bel.size p3)
        have HRF := Aside0.mk (fun W => ref_step s x _ HP.out.bd (by have := HTT.out; have := HTK.out; have := HF1.out; have := HIL.out; omega) (by have := HP.out.held; have := HTT.out; have := HTK.out; have := HF1.out; omega) HBX.out W)
        have HZ := Aside0.mk (And.intro (refA_size s) (refA_one s))
        have HZ1 := Aside0.mk (And.intro (refA_size (step s x).1) (refA_one (step s x).1))
        clear HBX pf p1 p2 p3
        generalize (step s x).1 = s1 at HST HRF HPL HZ1
        generalize (step s x).2 = X at HST HRF HPL
        have y0 : 0 ≤ (i : Int) := by omega
        have y1 : (i : Int) < (l0.length : Int) := by have := HI.out; omega
        obtain ⟨n, hn⟩ : ∃ n, n = x.length := ⟨_, rfl⟩
        rw [← hn] at p0 HST
        have HN := Aside0.mk hn
        clear hn
        go_wp2_with fail
        refine HST.out.mono ?_
        rintro e w7 ⟨vx, A1, rfl, hx7, hl7⟩
        have HPM := Aside0.mk (pm_of HP.out hl7 hx7)
        have HWS := Aside0.mk HP.out.bel.size
        clear hx7 hl7 HST p0 HP
        obtain ⟨ad', Ab2, cb2, e2, q0, q1, q2⟩ := HRX.out _ HPM.out.bel
        obtain rfl := Option.some.inj e2
        rw [← HN.out] at q0 q2
        have HQ0 := Aside0.mk q0
        have HQ2 := Aside0.mk q2
        have HBX := Aside0.mk HPM.out.box
        clear e2 q1 HRX HN
        obtain ⟨rs, hrs⟩ : ∃ rs, rs = refA s := ⟨_, rfl⟩
        obtain ⟨r1, hr1⟩ : ∃ r1, r1 = refA s1 := ⟨_, rfl⟩
        rw [← hrs] at HBX HRF HZ
        rw [← hr1] at HRF HZ1
        have HR1 := Aside0.mk hr1
        clear hrs hr1
        go_wp2_with fail
        refine wp_region_F (fun w' => w'.heap[gb]? = some (.cells rs 33 (0, 0)) ∧ w'.cell? (ad.add i) = some (.slice Ab2 n cb2) ∧ Kd.C (Kd.int .u8) w' Ab2 n x) 6 (by kernel_rfl) ⟨HBX.out, q0, q2⟩ (fun hHeld => ?_)
        clear q0 q2
        refine wpAnyF_take (i := 0) (oi := { dst := some 63, op := Op.load 33 (Operand.tmp 11), type := 33, pos := "law.go:86", after := #[], guard := none }) (v := .agg rs) [] (by kernel_rfl) rfl (by kernel_rfl) (by kernel_rfl) (by kernel_rfl) (fun _ _ _ h => h) (Or.inl ⟨by rfl, ?_⟩) (by assumption) ?_
        · intro W hSw
          exact run_ld33_ (.tmp 11) gb rs rfl (by kernel_rfl) hSw.1 HZ.out.1
        try simp only [Act.put, List.setIfInBounds_toArray, List.set_cons_zero, List.set_cons_succ]
        refine wpAnyF_take (i := 1) (oi := { dst := some 64, op := Op.move (Operand.tmp 0), type := 22, pos := "law.go:86", after := #[], guard := none }) (v := ?_) [5, 4, 3] (by kernel_rfl) rfl (by kernel_rfl) (by kernel_rfl) (by kernel_rfl) (fun _ _ _ h => h) (Or.inl ⟨by rfl, ?_⟩) (by assumption) ?_
        rotate_left 1
        · intro W hSw
          go_simp
          all_goals try with_reducible rfl
        try simp only [Act.put, List.setIfInBounds_toArray, List.set_cons_zero, List.set_cons_succ]
        refine wpAnyF_take (i := 2) (oi := { dst := some 65, op := Op.move (Operand.tmp 13), type := 3, pos := "law.go:86", after := #[], guard := none }) (v := ?_) [5, 4, 3] (by kernel_rfl) rfl (by kernel_rfl) (by kernel_rfl) (by kernel_rfl) (fun _ _ _ h => h) (Or.inl ⟨by rfl, ?_⟩) (by assumption) ?_
        rotate_left 1
        · intro W hSw
          go_simp
          all_goals try with_reducible rfl
        try simp only [Act.put, List.setIfInBounds_toArray, List.set_cons_zero, List.set_cons_succ]
        refine wpAnyF_take (i := 3) (oi := { dst := some 66, op := Op.indexAddr 22 (Operand.tmp 64) (Operand.tmp 65), type := 0, pos := "law.go:86", after := #[{ on := 1, ground := Ground.data }, { on := 2, ground := Ground.data }], guard := none }) (v := ?_) [5, 4] (by kernel_rfl) rfl (by kernel_rfl) (by kernel_rfl) (by kernel_rfl) (fun _ _ _ h => h) (Or.inl ⟨by rfl, ?_⟩) (by assumption) ?_
        rotate_left 1
        · intro W hSw
          go_simp
          all_goals try with_reducible rfl
        try simp only [Act.put, List.setIfInBounds_toArray, List.set_cons_zero, List.set_cons_succ]
        refine wpAnyF_take (i := 4) (oi := { dst := some 67, op := Op.load 38 (Operand.tmp 66), type := 38, pos := "law.go:86", after := #[{ on := 3, ground := Ground.data }], guard := none }) (v := ?_) [5] (by kernel_rfl) rfl (by kernel_rfl) (by kernel_rfl) (by kernel_rfl) (fun _ _ _ h => h) (Or.inl ⟨by rfl, ?_⟩) (by assumption) ?_
        rotate_left 1
        · intro W hSw
          have q0 := hSw.2.1
          clear hSw
          go_simp
          all_goals try with_reducible rfl
        try simp only [Act.put, List.setIfInBounds_toArray, List.set_cons_zero, List.set_cons_succ]
        refine wpAnyF_take (i := 5) (oi := { dst := some 68, op := Op.convert 38 9 (Operand.tmp 67), type := 9, pos := "law.go:86", after := #[{ on := 4, ground := Ground.data }], guard := none }) (v := ?_) [] (by kernel_rfl) rfl (by kernel_rfl) (by kernel_rfl) (by kernel_rfl) (fun _ _ _ h => h) (Or.inl ⟨by rfl, ?_⟩) (by assumption) ?_
        rotate_left 1
        · intro W hSw
          have sb := Kd.C_string (P := Try.prog) (A := Ab2) (c := cb2) Try.underlying38 Try.underlying5 Try.underlying9 hSw.2.2
          clear hSw
          go_simp
          all_goals try with_reducible rfl
        try simp only [Act.put, List.setIfInBounds_toArray, List.set_cons_zero, List.set_cons_succ]
        refine wpAnyF_last (o := { dst := some 69, op := Op.call { callee := Callee.value (Operand.func 16), args := #[Operand.tmp 63, Operand.tmp 68], argTypes := #[33, 9] }, type := 39, pos := "law.go:86", after := #[{ on := 0, ground := Ground.data }, { on := 5, ground := Ground.data }], guard := none }) (by kernel_rfl) rfl (fun K hK => ?_)
        clear hHeld
        go_simp
        refine (HRF.out _).mono ?_
        rintro e w8 ⟨vy, rfl, hy8, hb8⟩
        have HB8 := Aside0.mk (show Below w7.heap.size w7 w8 from Below.trans (below_drew (Below.refl _ _)) hb8)
        have HY8 := Aside0.mk hy8
        have HX8 := Aside0.mk (blk_below HBX.out HB8.out)
        have q0 := Go.Proofs.YtgiaabgmnjaefaaW.PrintWords.cell_kept HQ0.out (Kept.of_below HB8.out (fun _ => False)) (fun h => h)
        have q2 := Kd.C_below HQ2.out HB8.out
        clear hy8 hb8
        refine hK.out _ _ ?_
        clear hK K q0 q2
        try simp only [Act.put, List.setIfInBounds_toArray, List.set_cons_zero, List.set_cons_succ]
        refine wpAny_of_held (S := fun _ => True) _ _ _ _ ?_
        refine wpAnyH_take (i := 7) (oi := { dst := some 62, op := Op.move (Operand.tmp 69), type := 39, pos := "law.go:86", after := #[{ on := 6, ground := Ground.data }], guard := none }) (v := ?_) rfl (by kernel_rfl) (by kernel_rfl) (by kernel_rfl) (fun _ _ _ h => h) (Or.inl ⟨by rfl, ?_⟩) trivial ?_
        rotate_left 1
        · intro W hSw
          go_simp
          all_goals try with_reducible rfl
        try simp only [Act.put, List.setIfInBounds_toArray, List.set_cons_zero, List.set_cons_succ]
        refine wpAnyH_take (i := 8) (oi := { dst := some 70, op := Op.extract (Operand.tmp 62) 0, type := 33, pos := "law.go:86", after := #[{ on := 7, ground := Ground.data }], guard := none }) (v := ?_) rfl (by kernel_rfl) (by kernel_rfl) (by kernel_rfl) (fun _ _ _ h => h) (Or.inl ⟨by rfl, ?_⟩) trivial ?_
        rotate_left 1
        · intro W hSw
          go_simp
          all_goals try with_reducible rfl
        try simp only [Act.put, List.setIfInBounds_toArray, List.set_cons_zero, List.set_cons_succ]
        refine wpAnyH_take (i := 9) (oi := { dst := some 71, op := Op.extract (Operand.tmp 62) 1, type := 36, pos := "law.go:86", after := #[{ on := 7, ground := Ground.data }, { on := 10, ground := Ground.gcOnly Departure.lateStores }], guard := none }) (v := ?_) rfl (by kernel_rfl) (by kernel_rfl) (by kernel_rfl) (fun _ _ _ h => h) (Or.inl ⟨by rfl, ?_⟩) trivial ?_
        rotate_left 1
        · intro W hSw
          go_simp
          all_goals try with_reducible rfl
        try simp only [Act.put, List.setIfInBounds_toArray, List.set_cons_zero, List.set_cons_succ]
        refine wpAnyH_ready (rs := [10]) (by kernel_rfl) (by simp) ?_
        refine AllReadyH.cons (o := { dst := none, op := Op.store 33 (Operand.tmp 11) (Operand.tmp 70), type := 0, pos := "law.go:86", after := #[{ on := 8, ground := Ground.data }, { on := 6, ground := Ground.chain }, { on := 0, ground := Ground.phase }, { on := 1, ground := Ground.phase }, { on := 2, ground := Ground.phase }, { on := 3, ground := Ground.phase }, { on := 4, ground := Ground.phase }, { on := 5, ground := Ground.phase }, { on := 6, ground := Ground.phase }, { on := 7, ground := Ground.phase }, { on := 8, ground := Ground.phase }, { on := 9, ground := Ground.textOnly Departure.lateStores }], guard := none }) rfl (fun K hK => ?_) AllReadyH.nil
        rw [if_pos (by rfl)]
        refine wp_store_row 33 (.tmp 11) (.tmp 70) rfl gb r1 (by kernel_rfl) (by kernel_rfl) 33 rs HX8.out (by rw [HZ1.out.1]; exact info33) (by rw [HZ1.out.1]; exact HZ.out.1) HZ1.out.2 ?_
        refine hK.out _ _ trivial (fun _ => ?_)
        clear hK K
        try simp only [Act.put, List.setIfInBounds_toArray, List.set_cons_zero, List.set_cons_succ]
        refine wpAnyH_ready (rs := [11]) (by kernel_rfl) (by simp) ?_
        refine AllReadyH.cons (o := { dst := some 15, op := Op.assign (Operand.tmp 71), type := 36, pos := "law.go:86", after := #[{ on := 9, ground := Ground.data }, { on := 10, ground := Ground.chain }, { on := 0, ground := Ground.phase }, { on := 1, ground := Ground.phase }, { on := 2, ground := Ground.phase }, { on := 3, ground := Ground.phase }, { on := 4, ground := Ground.phase }, { on := 5, ground := Ground.phase }, { on := 6, ground := Ground.phase }, { on := 7, ground := Ground.phase }, { on := 8, ground := Ground.phase }, { on := 9, ground := Ground.phase }, { on := 10, ground := Ground.phase }], guard := none }) rfl (fun K hK => ?_) AllReadyH.nil
        go_simp
        refine hK.out _ _ trivial (fun _ => ?_)
        clear hK K
        try simp only [Act.put, List.setIfInBounds_toArray, List.set_cons_zero, List.set_cons_succ]
        refine wpAnyH_done (by kernel_rfl) ?_ _
        have HPN := Aside0.mk (show Pn w (w8.setRow gb r1) gs gw gm gb A1 s1 vx vy X from by rw [HR1.out]; exact pn_of HPM.out HWS.out HY8.out HB8.out)
        clear HBX HRF HQ0 HQ2 HX8 HY8 HB8 HPM HZ HZ1 HR1
        generalize w8.setRow gb r1 = wx at HPN ⊢
        obtain ⟨Ax, cx, hv⟩ := Kd.R_slice HPN.out.row
        subst hv
        obtain ⟨Ay, cy, hv⟩ := Kd.R_slice HPN.out.row2
        subst hv
        clear y0 y1
        have HM := Aside0.mk (Win.met HPN.out.str.win)
        have HBN := Aside0.mk HPN.out.box
        have k6 := (blk_cell HPN.out.box 6).trans (show _ = some (Value.int .i64 (s1.hunt : Int)) from rfl)
        have k2 := (blk_cell HPN.out.box 2).trans (show _ = some (Value.int .i64 (s1.st.mv : Int)) from rfl)
        have HXL := Aside0.mk (Kd.R_reads' HPN.out.row).2.2.2.1
        have heq := eqC 9998
        have heq0 := eqC 0
        have hzc := zeroC
        go_wp2_with fail
        refine wp_region_held_drew (S := fun w' => w'.cell? ⟨gb, 6, none⟩ = some (Value.int .i64 (s1.hunt : Int)) ∧ w'.cell? ⟨gb, 2, none⟩ = some (Value.int .i64 (s1.st.mv : Int))) (by kernel_rfl) ⟨k6, k2⟩ (fun hHeld => ?_)
        refine wpAnyH_take (i := 0) (oi := { dst := some 79, op := Op.move (Operand.tmp 14), type := 35, pos := "law.go:91", after := #[], guard := none }) (v := ?_) rfl (by kernel_rfl) (by kernel_rfl) (by kernel_rfl) (fun _ _ _ h => h) (Or.inl ⟨by rfl, ?_⟩) (by assumption) ?_
        rotate_left 1
        · intro w hSw
          (try dsimp only at hSw)
          go_simp
          all_goals try with_reducible rfl
        try simp only [Act.put, List.setIfInBounds_toArray, List.set_cons_zero, List.set_cons_succ]
        refine wpAnyH_take (i := 1) (oi := { dst := some 80, op := Op.call { callee := Callee.builtin Builtin.len, args := #[Operand.tmp 79], argTypes := #[35] }, type := 3, pos := "law.go:91", after := #[{ on := 0, ground := Ground.data }], guard := none }) (v := ?_) rfl (by kernel_rfl) (by kernel_rfl) (by kernel_rfl) (fun _ _ _ h => h) (Or.inl ⟨by rfl, ?_⟩) (by assumption) ?_
        rotate_left 1
        · intro w hSw
          (try dsimp only at hSw)
          go_simp
          all_goals try with_reducible rfl
        try simp only [Act.put, List.setIfInBounds_toArray, List.set_cons_zero, List.set_cons_succ]
        refine wpAnyH_take (i := 2) (oi := { dst := some 81, op := Op.move (Operand.tmp 15), type := 36, pos := "law.go:91", after := #[], guard := none }) (v := ?_) rfl (by kernel_rfl) (by kernel_rfl) (by kernel_rfl) (fun _ _ _ h => h) (Or.inl ⟨by rfl, ?_⟩) (by assumption) ?_
        rotate_left 1
        · intro w hSw
          (try dsimp only at hSw)
          go_simp
          all_goals try with_reducible rfl
        try simp only [Act.put, List.setIfInBounds_toArray, List.set_cons_zero, List.set_cons_succ]
        refine wpAnyH_take (i := 3) (oi := { dst := some 82, op := Op.call { callee := Callee.builtin Builtin.len, args := #[Operand.tmp 81], argTypes := #[36] }, type := 3, pos := "law.go:91", after := #[{ on := 2, ground := Ground.data }], guard := none }) (v := ?_) rfl (by kernel_rfl) (by kernel_rfl) (by kernel_rfl) (fun _ _ _ h => h) (Or.inl ⟨by rfl, ?_⟩) (by assumption) ?_
        rotate_left 1
        · intro w hSw
          (try dsimp only at hSw)
          go_simp
          all_goals try with_reducible rfl
        try simp only [Act.put, List.setIfInBounds_toArray, List.set_cons_zero, List.set_cons_succ]
        refine wpAnyH_take (i := 4) (oi := { dst := some 83, op := Op.binOp BinOp.neq 3 (Operand.tmp 80) (Operand.tmp 82) 3, type := 4, pos := "law.go:91", after := #[{ on := 1, ground := Ground.data }, { on := 3, ground := Ground.data }], guard := none }) (v := ?_) rfl (by kernel_rfl) (by kernel_rfl) (by kernel_rfl) (fun _ _ _ h => h) (Or.inl ⟨by rfl, ?_⟩) (by assumption) ?_
        rotate_left 1
        · intro w hSw
          (try dsimp only at hSw)
          go_simp
          all_goals try with_reducible rfl
        try simp only [Act.put, List.setIfInBounds_toArray, List.set_cons_zero, List.set_cons_succ]
        refine wpAnyH_take (i := 5) (oi := { dst := some 84, op := Op.move (Operand.tmp 83), type := 4, pos := "law.go:91", after := #[{ on := 4, ground := Ground.data }], guard := none }) (v := ?_) rfl (by kernel_rfl) (by kernel_rfl) (by kernel_rfl) (fun _ _ _ h => h) (Or.inl ⟨by rfl, ?_⟩) (by assumption) ?_
        rotate_left 1
        · intro w hSw
          (try dsimp only at hSw)
          go_simp
          all_goals try with_reducible rfl
        try simp only [Act.put, List.setIfInBounds_toArray, List.set_cons_zero, List.set_cons_succ]
        refine wpAnyH_take (i := 6) (oi := { dst := some 85, op := Op.move (Operand.tmp 9), type := 25, pos := "law.go:91", after := #[{ on := 5, ground := Ground.guard }], guard := some (5, false) }) (v := ?_) rfl (by kernel_rfl) (by kernel_rfl) (by kernel_rfl) (fun _ _ _ h => h) (Or.inl ⟨by go_simp, ?_⟩) (by assumption) ?_
        rotate_left 1
        · intro w hSw
          (try dsimp only at hSw)
          go_simp
          all_goals try with_reducible rfl
        try simp only [Act.put, List.setIfInBounds_toArray, List.set_cons_zero, List.set_cons_succ]
        refine wpAnyH_take (i := 8) (oi := { dst := some 87, op := Op.fieldAddr 33 (Operand.tmp 11) 4, type := 0, pos := "law.go:91", after := #[{ on := 5, ground := Ground.guard }], guard := some (5, false) }) (v := ?_) rfl (by kernel_rfl) (by kernel_rfl) (by kernel_rfl) (fun _ _ _ h => h) (Or.inl ⟨by go_simp, ?_⟩) (by assumption) ?_
        rotate_left 1
        · intro w hSw
          (try dsimp only at hSw)
          go_simp
          all_goals try with_reducible rfl
        try simp only [Act.put, List.setIfInBounds_toArray, List.set_cons_zero, List.set_cons_succ]
        refine wpAnyH_take (i := 9) (oi := { dst := some 88, op := Op.load 3 (Operand.tmp 87), type := 3, pos := "law.go:91", after := #[{ on := 8, ground := Ground.data }, { on := 5, ground := Ground.guard }], guard := some (5, false) }) (v := ?_) rfl (by kernel_rfl) (by kernel_rfl) (by kernel_rfl) (fun _ _ _ h => h) (Or.inl ⟨by go_simp, ?_⟩) (by assumption) ?_
        rotate_left 1
        · intro w hSw
          (try dsimp only at hSw)
          go_simp
          all_goals try with_reducible rfl
        try simp only [Act.put, List.setIfInBounds_toArray, List.set_cons_zero, List.set_cons_succ]
        refine wpAnyH_take (i := 10) (oi := { dst := some 89, op := Op.fieldAddr 33 (Operand.tmp 11) 0, type := 0, pos := "law.go:91", after := #[{ on := 5, ground := Ground.guard }], guard := some (5, false) }) (v := ?_) rfl (by kernel_rfl) (by kernel_rfl) (by kernel_rfl) (fun _ _ _ h => h) (Or.inl ⟨by go_simp, ?_⟩) (by assumption) ?_
        rotate_left 1
        · intro w hSw
          (try dsimp only at hSw)
          go_simp
          all_goals try with_reducible rfl
        try simp only [Act.put, List.setIfInBounds_toArray, List.set_cons_zero, List.set_cons_succ]
        refine wpAnyH_take (i := 11) (oi := { dst := some 90, op := Op.fieldAddr 30 (Operand.tmp 89) 2, type := 0, pos := "law.go:91", after := #[{ on := 10, ground := Ground.data }, { on := 5, ground := Ground.guard }], guard := some (5, false) }) (v := ?_) rfl (by kernel_rfl) (by kernel_rfl) (by kernel_rfl) (fun _ _ _ h => h) (Or.inl ⟨by go_simp, ?_⟩) (by assumption) ?_
        rotate_left 1
        · intro w hSw
          (try dsimp only at hSw)
          go_simp
          all_goals try with_reducible rfl
        try simp only [Act.put, List.setIfInBounds_toArray, List.set_cons_zero, List.set_cons_succ]
        refine wpAnyH_take (i := 12) (oi := { dst := some 91, op := Op.load 3 (Operand.tmp 90), type := 3, pos := "law.go:91", after := #[{ on := 11, ground := Ground.data }, { on := 5, ground := Ground.guard }], guard := some (5, false) }) (v := ?_) rfl (by kernel_rfl) (by kernel_rfl) (by kernel_rfl) (fun _ _ _ h => h) (Or.inl ⟨by go_simp, ?_⟩) (by assumption) ?_
        rotate_left 1
        · intro w hSw
          (try dsimp only at hSw)
          go_simp
          all_goals try with_reducible rfl
        try simp only [Act.put, List.setIfInBounds_toArray, List.set_cons_zero, List.set_cons_succ]
        refine wpAnyH_take (i := 13) (oi := { dst := some 92, op := Op.build 44 #[(2, Operand.tmp 88), (3, Operand.tmp 91)], type := 44, pos := "law.go:91", after := #[{ on := 9, ground := Ground.data }, { on := 12, ground := Ground.data }, { on := 5, ground := Ground.guard }], guard := some (5, false) }) (v := ?_) rfl (by kernel_rfl) (by kernel_rfl) (by kernel_rfl) (fun _ _ _ h => h) (Or.inl ⟨by go_simp, ?_⟩) (by assumption) ?_
        rotate_left 1
        · intro w hSw
          (try dsimp only at hSw)
          go_simp
          all_goals try with_reducible rfl
        try simp only [Act.put, List.setIfInBounds_toArray, List.set_cons_zero, List.set_cons_succ]
        refine wpAnyH_ready (rs := [7]) (by kernel_rfl) (by simp) ?_
        refine AllReadyH.cons (o := { dst := some 86, op := Op.call { callee := Callee.value (Operand.func 19), args := #[Operand.tmp 85], argTypes := #[25] }, type := 44, pos := "law.go:91", after := #[{ on := 6, ground := Ground.data }, { on := 5, ground := Ground.chain }, { on := 5, ground := Ground.guard }], guard := some (5, false) }) rfl (fun K hK => ?_) AllReadyH.nil
        clear hHeld
        go_simp
        refine (counts_any gm 0 0 (s1.hunt : Int) (s1.st.mv : Int) wx.drew (HM.out.below (below_drew (Below.refl _ _)))).mono ?_
        rintro e u1 ⟨rfl, hb⟩
        have HU1 := Aside0.mk (show Below wx.heap.size wx u1 from Below.trans (below_drew (Below.refl _ _)) hb)
        clear hb k6 k2
        have k6 := (blk_cell (blk_below HBN.out HU1.out) 6).trans (show _ = some (Value.int .i64 (s1.hunt : Int)) from rfl)
        have k2 := (blk_cell (blk_below HBN.out HU1.out) 2).trans (show _ = some (Value.int .i64 (s1.st.mv : Int)) from rfl)
        refine hK.out _ _ ⟨k6, k2⟩ (fun hHeld => ?_)
        clear hK K
        try simp only [Act.put, List.setIfInBounds_toArray, List.set_cons_zero, List.set_cons_succ]
        refine wpAnyH_take (i := 14) (oi := { dst := some 93, op := Op.binOp BinOp.neq 44 (Operand.tmp 86) (Operand.tmp 92) 44, type := 4, pos := "law.go:91", after := #[{ on := 7, ground := Ground.data }, { on := 13, ground := Ground.data }, { on := 5, ground := Ground.guard }], guard := some (5, false) }) (v := ?_) rfl (by kernel_rfl) (by kernel_rfl) (by kernel_rfl) (fun _ _ _ h => h) (Or.inl ⟨by go_simp, ?_⟩) (by assumption) ?_
        rotate_left 1
        · intro w hSw
          (try dsimp only at hSw)
          go_simp
          all_goals try with_reducible rfl
        try simp only [Act.put, List.setIfInBounds_toArray, List.set_cons_zero, List.set_cons_succ]
        refine wpAnyH_take (i := 15) (oi := { dst := some 94, op := Op.pick (Operand.tmp 84) (Operand.const (Value.bool true)) (Operand.tmp 93), type := 4, pos := "law.go:91", after := #[{ on := 5, ground := Ground.data }, { on := 14, ground := Ground.data }], guard := none }) (v := ?_) rfl (by kernel_rfl) (by kernel_rfl) (by kernel_rfl) (fun _ _ _ h => h) (Or.inl ⟨by rfl, ?_⟩) (by assumption) ?_
        rotate_left 1
        · intro w hSw
          (try dsimp only at hSw)
          go_simp
          all_goals try with_reducible rfl
        try simp only [Act.put, List.setIfInBounds_toArray, List.set_cons_zero, List.set_cons_succ]
        refine wpAnyH_done (by kernel_rfl) ?_ _
        clear k6 k2 heq heq0 hzc
        have HPU := Aside0.mk (HPN.out.below HU1.out)
        have HCX := Aside0.mk (Kd.R_reads' HPU.out.row).2.2
        have HCY := Aside0.mk (Kd.R_reads' HPU.out.row2).2.2
        clear HM HBN HPN HU1
        go_wp2
        go_loopw [16] (fun v16 wr2 => ∃ (k : Nat), v16 = .int .i64 (k : Int) ∧ Aside0 (k ≤ X.length) ∧ Aside0 (Below u1.heap.size u1 wr2)) (fun v _ => X.length - (intOf v).toNat)
        case atStart => exact ⟨0, rfl, ⟨Nat.zero_le _⟩, ⟨Below.refl _ _⟩⟩
        case round =>
          obtain ⟨k, rfl, HK, HBK⟩ := hrel
          by_cases hk : k < X.length
          · have f1 : decide ((k : Int) < (X.length : Int)) = true := decide_eq_true (by omega)
            have f2 : decide (k < X.length) = true := decide_eq_true hk
            have HKL := Aside0.mk hk
            obtain ⟨ad1, A2, c1, rfl, p0, p1, p2, p3, p4⟩ := line_at (Kd.C_below HCX.out HBK.out) k (X[k]) (List.getElem?_eq_getElem _)
            obtain ⟨ad2, rfl, r0, r1, r2⟩ := lineq_at (Kd.C_below HCY.out HBK.out) k (X[k]) (List.getElem?_eq_getElem _)
            generalize (X[k]'hk) = xk at p0 p1 p2 p3 p4 r0 r1 r2
            obtain ⟨x0, x1, xs⟩ := xk
            dsimp only at p0 p1 p2 p3 p4 r0 r1 r2
            have t0 := fun m => Kd.C_string (P := Try.prog) (A := A2) (c := c1) Try.underlying38 Try.underlying5 Try.underlying9 (Kd.C_drewN p4 m)
            clear p3 p4 hk
            generalize strOfNums xs = str at t0 r2
            generalize xs.length = m at p2 t0
            have y0 : 0 ≤ (k : Int) := by omega
            have y1 : (k : Int) < (X.length : Int) := by have := HKL.out; omega
            have hw5 : wrap64 ((k : Int) + 1) = ((k + 1 : Nat) : Int) := wr_big (by omega) (by have := HXL.out; have := HKL.out; omega)
            have g0 : (x0 != x0) = false := bne_self_eq_false _
            have g1 : (x1 != x1) = false := bne_self_eq_false _
            go_wp2_with fail
            go_quiet (fail)
            go_wp2_with fail
            exact ⟨⟨k + 1, congrArg (Value.int .i64) hw5, HKL, ⟨pw_below_drewN HBK.out _⟩⟩, ms_step HKL.out hw5⟩
          · have f1 : decide ((k : Int) < (X.length : Int)) = false := decide_eq_false (by omega)
            have f2 : decide (k < X.length) = false := decide_eq_false hk
            have HPV := Aside0.mk (HPU.out.below HBK.out)
            have HER := Aside0.mk (err_some HPV.out.str)
            have hwi : wrap64 ((i : Int) + 1) = ((i + 1 : Nat) : Int) := wr_big (by omega) (by have := HIL.out; have := HF1.out; omega)
            clear hk HPU HCX HCY
            go_wp2_with fail
            refine HER.out.mono ?_
            rintro e w9 ⟨rfl, hb9⟩
            have HPW := Aside0.mk (HPV.out.below hb9)
            clear HER hb9
            have k8 := (blk_cell HPW.out.box 8).trans (show _ = some (Value.int .i64 s1.bad) from rfl)
            have k4 := (blk_cell HPW.out.box 4).trans (show _ = some (Value.int .i64 (s1.num : Int)) from rfl)
            generalize s1.bad = bd at k8 ⊢
            have g3 : ((s1.num : Int) != (s1.num : Int)) = false := bne_self_eq_false _
            have g4 : (bd != bd) = false := bne_self_eq_false _
            by_cases hbd : bd = 0
            · subst hbd
              rw [if_pos rfl]
              go_wp2_with fail
              exact ⟨⟨i + 1, A1, s1, congrArg (Value.int .i64) hwi, ⟨HPL.out _ _ _ _ HPW.out⟩⟩, ms_step (Nat.lt_succ_of_le HIL.out) hwi⟩
            · have d5 : (bd != 0) = true := bne_iff_ne.mpr hbd
              rw [if_neg hbd]
              clear hbd
              go_wp2_with fail
              exact ⟨⟨i + 1, A1, s1, congrArg (Value.int .i64) hwi, ⟨HPL.out _ _ _ _ HPW.out⟩⟩, ms_step (Nat.lt_succ_of_le HIL.out) hwi⟩
      | true =>
        have HJ := Aside0.mk (Nat.le_of_lt HI.out)
        have HIL := Aside0.mk HJ.out
        have HPL := Aside0.mk (fun w2 A1 v u (h : Pn w w2 gs gw gm gb A1 (endS s).1 v u (endS s).2) => pl_end HP.out HJ.out HF1.out.1 h)
        have HTT := Aside0.mk (tot_take_le l0 i)
        have HST := Aside0.mk (end_calls HP.out.str (HP.out.bd.sml (by have := HTT.out; have := HF1.out; have := HIL.out; omega)) HP.out.bel.size)
        have HRF := Aside0.mk (fun W => ref_end s _ HP.out.bd (by have := HTT.out; have := HF1.out; have := HIL.out; omega) (by have := HP.out.held; have := HTT.out; have := HF1.out; omega) W)
        have HZ := Aside0.mk (And.intro (refA_size s) (refA_one s))
        have HZ1 := Aside0.mk (And.intro (refA_size (endS s).1) (refA_one (endS s).1))
        generalize (endS s).1 = s1 at HST HRF HPL HZ1
        generalize (endS s).2 = X at HST HRF HPL
        go_wp2_with fail
        refine HST.out.mono ?_
        rintro e w7 ⟨vx, A1, rfl, hx7, hl7⟩
        have HPM := Aside0.mk (pm_of HP.out hl7 hx7)
        have HWS := Aside0.mk HP.out.bel.size
        have HBX := Aside0.mk HPM.out.box
        clear hx7 hl7 HST HP
        obtain ⟨rs, hrs⟩ : ∃ rs, rs = refA s := ⟨_, rfl⟩
        obtain ⟨r1, hr1⟩ : ∃ r1, r1 = refA s1 := ⟨_, rfl⟩
        rw [← hrs] at HBX HRF HZ
        rw [← hr1] at HRF HZ1
        have HR1 := Aside0.mk hr1
        clear hrs hr1
        go_wp2_with (first
          | (with_reducible refine ld33_ (.tmp 11) gb rs ?_ ?_ ?_ ?_ ?_ ?_; exact rfl; exact rfl; kernel_rfl; exact HBX.out; exact HZ.out.1))
        refine (HRF.out _).mono ?_
        rintro e w8 ⟨vy, rfl, hy8, hb8⟩
        have HPN := Aside0.mk (show Pn w (w8.setRow gb r1) gs gw gm gb A1 s1 vx vy X from by rw [HR1.out]; exact pn_of HPM.out HWS.out hy8 hb8)
        have HX8 := Aside0.mk (blk_below HBX.out hb8)
        clear hy8 hb8 HRF
        go_wp2_with (first
          | (with_reducible refine st33_ (.tmp 11) (.tmp 77) gb r1 rs ?_ ?_ ?_ ?_ ?_ ?_ ?_ ?_ ?_; exact rfl; exact rfl; exact rfl; kernel_rfl; kernel_rfl; exact HX8.out; exact HZ1.out; exact HZ.out.1))
        clear HBX HX8 HPM HZ HZ1 HR1
        generalize w8.setRow gb r1 = wx at HPN ⊢
        obtain ⟨Ax, cx, hv⟩ := Kd.R_slice HPN.out.row
        subst hv
        obtain ⟨Ay, cy, hv⟩ := Kd.R_slice HPN.out.row2
        subst hv
        have HM := Aside0.mk (Win.met HPN.out.str.win)
        have HBN := Aside0.mk HPN.out.box
        have k6 := (blk_cell HPN.out.box 6).trans (show _ = some (Value.int .i64 (s1.hunt : Int)) from rfl)
        have k2 := (blk_cell HPN.out.box 2).trans (show _ = some (Value.int .i64 (s1.st.mv : Int)) from rfl)
        have HXL := Aside0.mk (Kd.R_reads' HPN.out.row).2.2.2.1
        have heq := eqC 9998
        have heq0 := eqC 0
        have hzc := zeroC
        go_wp2_with fail
        refine wp_region_held_drew (S := fun w' => w'.cell? ⟨gb, 6, none⟩ = some (Value.int .i64 (s1.hunt : Int)) ∧ w'.cell? ⟨gb, 2, none⟩ = some (Value.int .i64 (s1.st.mv : Int))) (by kernel_rfl) ⟨k6, k2⟩ (fun hHeld => ?_)
        refine wpAnyH_take (i := 0) (oi := { dst := some 79, op := Op.move (Operand.tmp 14), type := 35, pos := "law.go:91", after := #[], guard := none }) (v := ?_) rfl (by kernel_rfl) (by kernel_rfl) (by kernel_rfl) (fun _ _ _ h => h) (Or.inl ⟨by rfl, ?_⟩) (by assumption) ?_
        rotate_left 1
        · intro w hSw
          (try dsimp only at hSw)
          go_simp
          all_goals try with_reducible rfl
        try simp only [Act.put, List.setIfInBounds_toArray, List.set_cons_zero, List.set_cons_succ]
        refine wpAnyH_take (i := 1) (oi := { dst := some 80, op := Op.call { callee := Callee.builtin Builtin.len, args := #[Operand.tmp 79], argTypes := #[35] }, type := 3, pos := "law.go:91", after := #[{ on := 0, ground := Ground.data }], guard := none }) (v := ?_) rfl (by kernel_rfl) (by kernel_rfl) (by kernel_rfl) (fun _ _ _ h => h) (Or.inl ⟨by rfl, ?_⟩) (by assumption) ?_
        rotate_left 1
        · intro w hSw
          (try dsimp only at hSw)
          go_simp
          all_goals try with_reducible rfl
        try simp only [Act.put, List.setIfInBounds_toArray, List.set_cons_zero, List.set_cons_succ]
        refine wpAnyH_take (i := 2) (oi := { dst := some 81, op := Op.move (Operand.tmp 15), type := 36, pos := "law.go:91", after := #[], guard := none }) (v := ?_) rfl (by kernel_rfl) (by kernel_rfl) (by kernel_rfl) (fun _ _ _ h => h) (Or.inl ⟨by rfl, ?_⟩) (by assumption) ?_
        rotate_left 1
        · intro w hSw
          (try dsimp only at hSw)
          go_simp
          all_goals try with_reducible rfl
        try simp only [Act.put, List.setIfInBounds_toArray, List.set_cons_zero, List.set_cons_succ]
        refine wpAnyH_take (i := 3) (oi := { dst := some 82, op := Op.call { callee := Callee.builtin Builtin.len, args := #[Operand.tmp 81], argTypes := #[36] }, type := 3, pos := "law.go:91", after := #[{ on := 2, ground := Ground.data }], guard := none }) (v := ?_) rfl (by kernel_rfl) (by kernel_rfl) (by kernel_rfl) (fun _ _ _ h => h) (Or.inl ⟨by rfl, ?_⟩) (by assumption) ?_
        rotate_left 1
        · intro w hSw
          (try dsimp only at hSw)
          go_simp
          all_goals try with_reducible rfl
        try simp only [Act.put, List.setIfInBounds_toArray, List.set_cons_zero, List.set_cons_succ]
        refine wpAnyH_take (i := 4) (oi := { dst := some 83, op := Op.binOp BinOp.neq 3 (Operand.tmp 80) (Operand.tmp 82) 3, type := 4, pos := "law.go:91", after := #[{ on := 1, ground := Ground.data }, { on := 3, ground := Ground.data }], guard := none }) (v := ?_) rfl (by kernel_rfl) (by kernel_rfl) (by kernel_rfl) (fun _ _ _ h => h) (Or.inl ⟨by rfl, ?_⟩) (by assumption) ?_
        rotate_left 1
        · intro w hSw
          (try dsimp only at hSw)
          go_simp
          all_goals try with_reducible rfl
        try simp only [Act.put, List.setIfInBounds_toArray, List.set_cons_zero, List.set_cons_succ]
        refine wpAnyH_take (i := 5) (oi := { dst := some 84, op := Op.move (Operand.tmp 83), type := 4, pos := "law.go:91", after := #[{ on := 4, ground := Ground.data }], guard := none }) (v := ?_) rfl (by kernel_rfl) (by kernel_rfl) (by kernel_rfl) (fun _ _ _ h => h) (Or.inl ⟨by rfl, ?_⟩) (by assumption) ?_
        rotate_left 1
        · intro w hSw
          (try dsimp only at hSw)
          go_simp
          all_goals try with_reducible rfl
        try simp only [Act.put, List.setIfInBounds_toArray, List.set_cons_zero, List.set_cons_succ]
        refine wpAnyH_take (i := 6) (oi := { dst := some 85, op := Op.move (Operand.tmp 9), type := 25, pos := "law.go:91", after := #[{ on := 5, ground := Ground.guard }], guard := some (5, false) }) (v := ?_) rfl (by kernel_rfl) (by kernel_rfl) (by kernel_rfl) (fun _ _ _ h => h) (Or.inl ⟨by go_simp, ?_⟩) (by assumption) ?_
        rotate_left 1
        · intro w hSw
          (try dsimp only at hSw)
          go_simp
          all_goals try with_reducible rfl
        try simp only [Act.put, List.setIfInBounds_toArray, List.set_cons_zero, List.set_cons_succ]
        refine wpAnyH_take (i := 8) (oi := { dst := some 87, op := Op.fieldAddr 33 (Operand.tmp 11) 4, type := 0, pos := "law.go:91", after := #[{ on := 5, ground := Ground.guard }], guard := some (5, false) }) (v := ?_) rfl (by kernel_rfl) (by kernel_rfl) (by kernel_rfl) (fun _ _ _ h => h) (Or.inl ⟨by go_simp, ?_⟩) (by assumption) ?_
        rotate_left 1
        · intro w hSw
          (try dsimp only at hSw)
          go_simp
          all_goals try with_reducible rfl
        try simp only [Act.put, List.setIfInBounds_toArray, List.set_cons_zero, List.set_cons_succ]
        refine wpAnyH_take (i := 9) (oi := { dst := some 88, op := Op.load 3 (Operand.tmp 87), type := 3, pos := "law.go:91", after := #[{ on := 8, ground := Ground.data }, { on := 5, ground := Ground.guard }], guard := some (5, false) }) (v := ?_) rfl (by kernel_rfl) (by kernel_rfl) (by kernel_rfl) (fun _ _ _ h => h) (Or.inl ⟨by go_simp, ?_⟩) (by assumption) ?_
        rotate_left 1
        · intro w hSw
          (try dsimp only at hSw)
          go_simp
          all_goals try with_reducible rfl
        try simp only [Act.put, List.setIfInBounds_toArray, List.set_cons_zero, List.set_cons_succ]
        refine wpAnyH_take (i := 10) (oi := { dst := some 89, op := Op.fieldAddr 33 (Operand.tmp 11) 0, type := 0, pos := "law.go:91", after := #[{ on := 5, ground := Ground.guard }], guard := some (5, false) }) (v := ?_) rfl (by kernel_rfl) (by kernel_rfl) (by kernel_rfl) (fun _ _ _ h => h) (Or.inl ⟨by go_simp, ?_⟩) (by assumption) ?_
        rotate_left 1
        · intro w hSw
          (try dsimp only at hSw)
          go_simp
          all_goals try with_reducible rfl
        try simp only [Act.put, List.setIfInBounds_toArray, List.set_cons_zero, List.set_cons_succ]
        refine wpAnyH_take (i := 11) (oi := { dst := some 90, op := Op.fieldAddr 30 (Operand.tmp 89) 2, type := 0, pos := "law.go:91", after := #[{ on := 10, ground := Ground.data }, { on := 5, ground := Ground.guard }], guard := some (5, false) }) (v := ?_) rfl (by kernel_rfl) (by kernel_rfl) (by kernel_rfl) (fun _ _ _ h => h) (Or.inl ⟨by go_simp, ?_⟩) (by assumption) ?_
        rotate_left 1
        · intro w hSw
          (try dsimp only at hSw)
          go_simp
          all_goals try with_reducible rfl
        try simp only [Act.put, List.setIfInBounds_toArray, List.set_cons_zero, List.set_cons_succ]
        refine wpAnyH_take (i := 12) (oi := { dst := some 91, op := Op.load 3 (Operand.tmp 90), type := 3, pos := "law.go:91", after := #[{ on := 11, ground := Ground.data }, { on := 5, ground := Ground.guard }], guard := some (5, false) }) (v := ?_) rfl (by kernel_rfl) (by kernel_rfl) (by kernel_rfl) (fun _ _ _ h => h) (Or.inl ⟨by go_simp, ?_⟩) (by assumption) ?_
        rotate_left 1
        · intro w hSw
          (try dsimp only at hSw)
          go_simp
          all_goals try with_reducible rfl
        try simp only [Act.put, List.setIfInBounds_toArray, List.set_cons_zero, List.set_cons_succ]
        refine wpAnyH_take (i := 13) (oi := { dst := some 92, op := Op.build 44 #[(2, Operand.tmp 88), (3, Operand.tmp 91)], type := 44, pos := "law.go:91", after := #[{ on := 9, ground := Ground.data }, { on := 12, ground := Ground.data }, { on := 5, ground := Ground.guard }], guard := some (5, false) }) (v := ?_) rfl (by kernel_rfl) (by kernel_rfl) (by kernel_rfl) (fun _ _ _ h => h) (Or.inl ⟨by go_simp, ?_⟩) (by assumption) ?_
        rotate_left 1
        · intro w hSw
          (try dsimp only at hSw)
          go_simp
          all_goals try with_reducible rfl
        try simp only [Act.put, List.setIfInBounds_toArray, List.set_cons_zero, List.set_cons_succ]
        refine wpAnyH_ready (rs := [7]) (by kernel_rfl) (by simp) ?_
        refine AllReadyH.cons (o := { dst := some 86, op := Op.call { callee := Callee.value (Operand.func 19), args := #[Operand.tmp 85], argTypes := #[25] }, type := 44, pos := "law.go:91", after := #[{ on := 6, ground := Ground.data }, { on := 5, ground := Ground.chain }, { on := 5, ground := Ground.guard }], guard := some (5, false) }) rfl (fun K hK => ?_) AllReadyH.nil
        clear hHeld
        go_simp
        refine (counts_any gm 0 0 (s1.hunt : Int) (s1.st.mv : Int) wx.drew (HM.out.below (below_drew (Below.refl _ _)))).mono ?_
        rintro e u1 ⟨rfl, hb⟩
        have HU1 := Aside0.mk (show Below wx.heap.size wx u1 from Below.trans (below_drew (Below.refl _ _)) hb)
        clear hb k6 k2
        have k6 := (blk_cell (blk_below HBN.out HU1.out) 6).trans (show _ = some (Value.int .i64 (s1.hunt : Int)) from rfl)
        have k2 := (blk_cell (blk_below HBN.out HU1.out) 2).trans (show _ = some (Value.int .i64 (s1.st.mv : Int)) from rfl)
        refine hK.out _ _ ⟨k6, k2⟩ (fun hHeld => ?_)
        clear hK K
        try simp only [Act.put, List.setIfInBounds_toArray, List.set_cons_zero, List.set_cons_succ]
        refine wpAnyH_take (i := 14) (oi := { dst := some 93, op := Op.binOp BinOp.neq 44 (Operand.tmp 86) (Operand.tmp 92) 44, type := 4, pos := "law.go:91", after := #[{ on := 7, ground := Ground.data }, { on := 13, ground := Ground.data }, { on := 5, ground := Ground.guard }], guard := some (5, false) }) (v := ?_) rfl (by kernel_rfl) (by kernel_rfl) (by kernel_rfl) (fun _ _ _ h => h) (Or.inl ⟨by go_simp, ?_⟩) (by assumption) ?_
        rotate_left 1
        · intro w hSw
          (try dsimp only at hSw)
          go_simp
          all_goals try with_reducible rfl
        try simp only [Act.put, List.setIfInBounds_toArray, List.set_cons_zero, List.set_cons_succ]
        refine wpAnyH_take (i := 15) (oi := { dst := some 94, op := Op.pick (Operand.tmp 84) (Operand.const (Value.bool true)) (Operand.tmp 93), type := 4, pos := "law.go:91", after := #[{ on := 5, ground := Ground.data }, { on := 14, ground := Ground.data }], guard := none }) (v := ?_) rfl (by kernel_rfl) (by kernel_rfl) (by kernel_rfl) (fun _ _ _ h => h) (Or.inl ⟨by rfl, ?_⟩) (by assumption) ?_
        rotate_left 1
        · intro w hSw
          (try dsimp only at hSw)
          go_simp
          all_goals try with_reducible rfl
        try simp only [Act.put, List.setIfInBounds_toArray, List.set_cons_zero, List.set_cons_succ]
        refine wpAnyH_done (by kernel_rfl) ?_ _
        clear k6 k2 heq heq0 hzc
        have HPU := Aside0.mk (HPN.out.below HU1.out)
        have HCX := Aside0.mk (Kd.R_reads' HPU.out.row).2.2
        have HCY := Aside0.mk (Kd.R_reads' HPU.out.row2).2.2
        clear HM HBN HPN HU1
        go_wp2
        go_loopw [16] (fun v16 wr2 => ∃ (k : Nat), v16 = .int .i64 (k : Int) ∧ Aside0 (k ≤ X.length) ∧ Aside0 (Below u1.heap.size u1 wr2)) (fun v _ => X.length - (intOf v).toNat)
        case atStart => exact ⟨0, rfl, ⟨Nat.zero_le _⟩, ⟨Below.refl _ _⟩⟩
        case round =>
          obtain ⟨k, rfl, HK, HBK⟩ := hrel
          by_cases hk : k < X.length
          · have f1 : decide ((k : Int) < (X.length : Int)) = true := decide_eq_true (by omega)
            have f2 : decide (k < X.length) = true := decide_eq_true hk
            have HKL := Aside0.mk hk
            obtain ⟨ad1, A2, c1, rfl, p0, p1, p2, p3, p4⟩ := line_at (Kd.C_below HCX.out HBK.out) k (X[k]) (List.getElem?_eq_getElem _)
            obtain ⟨ad2, rfl, r0, r1, r2⟩ := lineq_at (Kd.C_below HCY.out HBK.out) k (X[k]) (List.getElem?_eq_getElem _)
            generalize (X[k]'hk) = xk at p0 p1 p2 p3 p4 r0 r1 r2
            obtain ⟨x0, x1, xs⟩ := xk
            dsimp only at p0 p1 p2 p3 p4 r0 r1 r2
            have t0 := fun m => Kd.C_string (P := Try.prog) (A := A2) (c := c1) Try.underlying38 Try.underlying5 Try.underlying9 (Kd.C_drewN p4 m)
            clear p3 p4 hk
            generalize strOfNums xs = str at t0 r2
            generalize xs.length = m at p2 t0
            have y0 : 0 ≤ (k : Int) := by omega
            have y1 : (k : Int) < (X.length : Int) := by have := HKL.out; omega
            have hw5 : wrap64 ((k : Int) + 1) = ((k + 1 : Nat) : Int) := wr_big (by omega) (by have := HXL.out; have := HKL.out; omega)
            have g0 : (x0 != x0) = false := bne_self_eq_false _
            have g1 : (x1 != x1) = false := bne_self_eq_false _
            go_wp2_with fail
            go_quiet (fail)
            go_wp2_with fail
            exact ⟨⟨k + 1, congrArg (Value.int .i64) hw5, HKL, ⟨pw_below_drewN HBK.out _⟩⟩, ms_step HKL.out hw5⟩
          · have f1 : decide ((k : Int) < (X.length : Int)) = false := decide_eq_false (by omega)
            have f2 : decide (k < X.length) = false := decide_eq_false hk
            have HPV := Aside0.mk (HPU.out.below HBK.out)
            have HER := Aside0.mk (err_some HPV.out.str)
            have hwi : wrap64 ((i : Int) + 1) = ((i + 1 : Nat) : Int) := wr_big (by omega) (by have := HIL.out; have := HF1.out; omega)
            clear hk HPU HCX HCY
            go_wp2_with fail
            refine HER.out.mono ?_
            rintro e w9 ⟨rfl, hb9⟩
            have HPW := Aside0.mk (HPV.out.below hb9)
            clear HER hb9
            have k8 := (blk_cell HPW.out.box 8).trans (show _ = some (Value.int .i64 s1.bad) from rfl)
            have k4 := (blk_cell HPW.out.box 4).trans (show _ = some (Value.int .i64 (s1.num : Int)) from rfl)
            generalize s1.bad = bd at k8 ⊢
            have g3 : ((s1.num : Int) != (s1.num : Int)) = false := bne_self_eq_false _
            have g4 : (bd != bd) = false := bne_self_eq_false _
            by_cases hbd : bd = 0
            · subst hbd
              rw [if_pos rfl]
              go_wp2_with fail
              exact ⟨⟨i + 1, A1, s1, congrArg (Value.int .i64) hwi, ⟨HPL.out _ _ _ _ HPW.out⟩⟩, ms_step (Nat.lt_succ_of_le HIL.out) hwi⟩
            · have d5 : (bd != 0) = true := bne_iff_ne.mpr hbd
              rw [if_neg hbd]
              clear hbd
              go_wp2_with fail
              exact ⟨⟨i + 1, A1, s1, congrArg (Value.int .i64) hwi, ⟨HPL.out _ _ _ _ HPW.out⟩⟩, ms_step (Nat.lt_succ_of_le HIL.out) hwi⟩
    · by_cases hj : i = l0.length
      · have e1 : decide ((i : Int) ≤ (l0.length : Int)) = true := decide_eq_true (by omega)
        have e2 : decide (i ≤ l0.length) = true := decide_eq_true (by omega)
        have e3 : decide ((i : Int) < (l0.length : Int)) = false := decide_eq_false (by omega)
        have e4 : decide (i < l0.length) = false := decide_eq_false (by omega)
        have HJ := Aside0.mk (Nat.le_of_eq hj)
        clear hi hj hle
        have HIL := Aside0.mk HJ.out
        have HPL := Aside0.mk (fun w2 A1 v u (h : Pn w w2 gs gw gm gb A1 (endS s).1 v u (endS s).2) => pl_end HP.out HJ.out HF1.out.1 h)
        have HTT := Aside0.mk (tot_take_le l0 i)
        have HST := Aside0.mk (end_calls HP.out.str (HP.out.bd.sml (by have := HTT.out; have := HF1.out; have := HIL.out; omega)) HP.out.bel.size)
        have HRF := Aside0.mk (fun W => ref_end s _ HP.out.bd (by have := HTT.out; have := HF1.out; have := HIL.out; omega) (by have := HP.out.held; have := HTT.out; have := HF1.out; omega) W)
        have HZ := Aside0.mk (And.intro (refA_size s) (refA_one s))
        have HZ1 := Aside0.mk (And.intro (refA_size (endS s).1) (refA_one (endS s).1))
        generalize (endS s).1 = s1 at HST HRF HPL HZ1
        generalize (endS s).2 = X at HST HRF HPL
        go_wp2_with fail
        refine HST.out.mono ?_
        rintro e w7 ⟨vx, A1, rfl, hx7, hl7⟩
        have HPM := Aside0.mk (pm_of HP.out hl7 hx7)
        have HWS := Aside0.mk HP.out.bel.size
        have HBX := Aside0.mk HPM.out.box
        clear hx7 hl7 HST HP
        obtain ⟨rs, hrs⟩ : ∃ rs, rs = refA s := ⟨_, rfl⟩
        obtain ⟨r1, hr1⟩ : ∃ r1, r1 = refA s1 := ⟨_, rfl⟩
        rw [← hrs] at HBX HRF HZ
        rw [← hr1] at HRF HZ1
        have HR1 := Aside0.mk hr1
        clear hrs hr1
        go_wp2_with (first
          | (with_reducible refine ld33_ (.tmp 11) gb rs ?_ ?_ ?_ ?_ ?_ ?_; exact rfl; exact rfl; kernel_rfl; exact HBX.out; exact HZ.out.1))
        refine (HRF.out _).mono ?_
        rintro e w8 ⟨vy, rfl, hy8, hb8⟩
        have HPN := Aside0.mk (show Pn w (w8.setRow gb r1) gs gw gm gb A1 s1 vx vy X from by rw [HR1.out]; exact pn_of HPM.out HWS.out hy8 hb8)
        have HX8 := Aside0.mk (blk_below HBX.out hb8)
        clear hy8 hb8 HRF
        go_wp2_with (first
          | (with_reducible refine st33_ (.tmp 11) (.tmp 77) gb r1 rs ?_ ?_ ?_ ?_ ?_ ?_ ?_ ?_ ?_; exact rfl; exact rfl; exact rfl; kernel_rfl; kernel_rfl; exact HX8.out; exact HZ1.out; exact HZ.out.1))
        clear HBX HX8 HPM HZ HZ1 HR1
        generalize w8.setRow gb r1 = wx at HPN ⊢
        obtain ⟨Ax, cx, hv⟩ := Kd.R_slice HPN.out.row
        subst hv
        obtain ⟨Ay, cy, hv⟩ := Kd.R_slice HPN.out.row2
        subst hv
        have HM := Aside0.mk (Win.met HPN.out.str.win)
        have HBN := Aside0.mk HPN.out.box
        have k6 := (blk_cell HPN.out.box 6).trans (show _ = some (Value.int .i64 (s1.hunt : Int)) from rfl)
        have k2 := (blk_cell HPN.out.box 2).trans (show _ = some (Value.int .i64 (s1.st.mv : Int)) from rfl)
        have HXL := Aside0.mk (Kd.R_reads' HPN.out.row).2.2.2.1
        have heq := eqC 9998
        have heq0 := eqC 0
        have hzc := zeroC
        go_wp2_with fail
        refine wp_region_held_drew (S := fun w' => w'.cell? ⟨gb, 6, none⟩ = some (Value.int .i64 (s1.hunt : Int)) ∧ w'.cell? ⟨gb, 2, none⟩ = some (Value.int .i64 (s1.st.mv : Int))) (by kernel_rfl) ⟨k6, k2⟩ (fun hHeld => ?_)
        refine wpAnyH_take (i := 0) (oi := { dst := some 79, op := Op.move (Operand.tmp 14), type := 35, pos := "law.go:91", after := #[], guard := none }) (v := ?_) rfl (by kernel_rfl) (by kernel_rfl) (by kernel_rfl) (fun _ _ _ h => h) (Or.inl ⟨by rfl, ?_⟩) (by assumption) ?_
        rotate_left 1
        · intro w hSw
          (try dsimp only at hSw)
          go_simp
          all_goals try with_reducible rfl
        try simp only [Act.put, List.setIfInBounds_toArray, List.set_cons_zero, List.set_cons_succ]
        refine wpAnyH_take (i := 1) (oi := { dst := some 80, op := Op.call { callee := Callee.builtin Builtin.len, args := #[Operand.tmp 79], argTypes := #[35] }, type := 3, pos := "law.go:91", after := #[{ on := 0, ground := Ground.data }], guard := none }) (v := ?_) rfl (by kernel_rfl) (by kernel_rfl) (by kernel_rfl) (fun _ _ _ h => h) (Or.inl ⟨by rfl, ?_⟩) (by assumption) ?_
        rotate_left 1
        · intro w hSw
          (try dsimp only at hSw)
          go_simp
          all_goals try with_reducible rfl
        try simp only [Act.put, List.setIfInBounds_toArray, List.set_cons_zero, List.set_cons_succ]
        refine wpAnyH_take (i := 2) (oi := { dst := some 81, op := Op.move (Operand.tmp 15), type := 36, pos := "law.go:91", after := #[], guard := none }) (v := ?_) rfl (by kernel_rfl) (by kernel_rfl) (by kernel_rfl) (fun _ _ _ h => h) (Or.inl ⟨by rfl, ?_⟩) (by assumption) ?_
        rotate_left 1
        · intro w hSw
          (try dsimp only at hSw)
          go_simp
          all_goals try with_reducible rfl
        try simp only [Act.put, List.setIfInBounds_toArray, List.set_cons_zero, List.set_cons_succ]
        refine wpAnyH_take (i := 3) (oi := { dst := some 82, op := Op.call { callee := Callee.builtin Builtin.len, args := #[Operand.tmp 81], argTypes := #[36] }, type := 3, pos := "law.go:91", after := #[{ on := 2, ground := Ground.data }], guard := none }) (v := ?_) rfl (by kernel_rfl) (by kernel_rfl) (by kernel_rfl) (fun _ _ _ h => h) (Or.inl ⟨by rfl, ?_⟩) (by assumption) ?_
        rotate_left 1
        · intro w hSw
          (try dsimp only at hSw)
          go_simp
          all_goals try with_reducible rfl
        try simp only [Act.put, List.setIfInBounds_toArray, List.set_cons_zero, List.set_cons_succ]
        refine wpAnyH_take (i := 4) (oi := { dst := some 83, op := Op.binOp BinOp.neq 3 (Operand.tmp 80) (Operand.tmp 82) 3, type := 4, pos := "law.go:91", after := #[{ on := 1, ground := Ground.data }, { on := 3, ground := Ground.data }], guard := none }) (v := ?_) rfl (by kernel_rfl) (by kernel_rfl) (by kernel_rfl) (fun _ _ _ h => h) (Or.inl ⟨by rfl, ?_⟩) (by assumption) ?_
        rotate_left 1
        · intro w hSw
          (try dsimp only at hSw)
          go_simp
          all_goals try with_reducible rfl
        try simp only [Act.put, List.setIfInBounds_toArray, List.set_cons_zero, List.set_cons_succ]
        refine wpAnyH_take (i := 5) (oi := { dst := some 84, op := Op.move (Operand.tmp 83), type := 4, pos := "law.go:91", after := #[{ on := 4, ground := Ground.data }], guard := none }) (v := ?_) rfl (by kernel_rfl) (by kernel_rfl) (by kernel_rfl) (fun _ _ _ h => h) (Or.inl ⟨by rfl, ?_⟩) (by assumption) ?_
        rotate_left 1
        · intro w hSw
          (try dsimp only at hSw)
          go_simp
          all_goals try with_reducible rfl
        try simp only [Act.put, List.setIfInBounds_toArray, List.set_cons_zero, List.set_cons_succ]
        refine wpAnyH_take (i := 6) (oi := { dst := some 85, op := Op.move (Operand.tmp 9), type := 25, pos := "law.go:91", after := #[{ on := 5, ground := Ground.guard }], guard := some (5, false) }) (v := ?_) rfl (by kernel_rfl) (by kernel_rfl) (by kernel_rfl) (fun _ _ _ h => h) (Or.inl ⟨by go_simp, ?_⟩) (by assumption) ?_
        rotate_left 1
        · intro w hSw
          (try dsimp only at hSw)
          go_simp
          all_goals try with_reducible rfl
        try simp only [Act.put, List.setIfInBounds_toArray, List.set_cons_zero, List.set_cons_succ]
        refine wpAnyH_take (i := 8) (oi := { dst := some 87, op := Op.fieldAddr 33 (Operand.tmp 11) 4, type := 0, pos := "law.go:91", after := #[{ on := 5, ground := Ground.guard }], guard := some (5, false) }) (v := ?_) rfl (by kernel_rfl) (by kernel_rfl) (by kernel_rfl) (fun _ _ _ h => h) (Or.inl ⟨by go_simp, ?_⟩) (by assumption) ?_
        rotate_left 1
        · intro w hSw
          (try dsimp only at hSw)
          go_simp
          all_goals try with_reducible rfl
        try simp only [Act.put, List.setIfInBounds_toArray, List.set_cons_zero, List.set_cons_succ]
        refine wpAnyH_take (i := 9) (oi := { dst := some 88, op := Op.load 3 (Operand.tmp 87), type := 3, pos := "law.go:91", after := #[{ on := 8, ground := Ground.data }, { on := 5, ground := Ground.guard }], guard := some (5, false) }) (v := ?_) rfl (by kernel_rfl) (by kernel_rfl) (by kernel_rfl) (fun _ _ _ h => h) (Or.inl ⟨by go_simp, ?_⟩) (by assumption) ?_
        rotate_left 1
        · intro w hSw
          (try dsimp only at hSw)
          go_simp
          all_goals try with_reducible rfl
        try simp only [Act.put, List.setIfInBounds_toArray, List.set_cons_zero, List.set_cons_succ]
        refine wpAnyH_take (i := 10) (oi := { dst := some 89, op := Op.fieldAddr 33 (Operand.tmp 11) 0, type := 0, pos := "law.go:91", after := #[{ on := 5, ground := Ground.guard }], guard := some (5, false) }) (v := ?_) rfl (by kernel_rfl) (by kernel_rfl) (by kernel_rfl) (fun _ _ _ h => h) (Or.inl ⟨by go_simp, ?_⟩) (by assumption) ?_
        rotate_left 1
        · intro w hSw
          (try dsimp only at hSw)
          go_simp
          all_goals try with_reducible rfl
        try simp only [Act.put, List.setIfInBounds_toArray, List.set_cons_zero, List.set_cons_succ]
        refine wpAnyH_take (i := 11) (oi := { dst := some 90, op := Op.fieldAddr 30 (Operand.tmp 89) 2, type := 0, pos := "law.go:91", after := #[{ on := 10, ground := Ground.data }, { on := 5, ground := Ground.guard }], guard := some (5, false) }) (v := ?_) rfl (by kernel_rfl) (by kernel_rfl) (by kernel_rfl) (fun _ _ _ h => h) (Or.inl ⟨by go_simp, ?_⟩) (by assumption) ?_
        rotate_left 1
        · intro w hSw
          (try dsimp only at hSw)
          go_simp
          all_goals try with_reducible rfl
        try simp only [Act.put, List.setIfInBounds_toArray, List.set_cons_zero, List.set_cons_succ]
        refine wpAnyH_take (i := 12) (oi := { dst := some 91, op := Op.load 3 (Operand.tmp 90), type := 3, pos := "law.go:91", after := #[{ on := 11, ground := Ground.data }, { on := 5, ground := Ground.guard }], guard := some (5, false) }) (v := ?_) rfl (by kernel_rfl) (by kernel_rfl) (by kernel_rfl) (fun _ _ _ h => h) (Or.inl ⟨by go_simp, ?_⟩) (by assumption) ?_
        rotate_left 1
        · intro w hSw
          (try dsimp only at hSw)
          go_simp
          all_goals try with_reducible rfl
        try simp only [Act.put, List.setIfInBounds_toArray, List.set_cons_zero, List.set_cons_succ]
        refine wpAnyH_take (i := 13) (oi := { dst := some 92, op := Op.build 44 #[(2, Operand.tmp 88), (3, Operand.tmp 91)], type := 44, pos := "law.go:91", after := #[{ on := 9, ground := Ground.data }, { on := 12, ground := Ground.data }, { on := 5, ground := Ground.guard }], guard := some (5, false) }) (v := ?_) rfl (by kernel_rfl) (by kernel_rfl) (by kernel_rfl) (fun _ _ _ h => h) (Or.inl ⟨by go_simp, ?_⟩) (by assumption) ?_
        rotate_left 1
        · intro w hSw
          (try dsimp only at hSw)
          go_simp
          all_goals try with_reducible rfl
        try simp only [Act.put, List.setIfInBounds_toArray, List.set_cons_zero, List.set_cons_succ]
        refine wpAnyH_ready (rs := [7]) (by kernel_rfl) (by simp) ?_
        refine AllReadyH.cons (o := { dst := some 86, op := Op.call { callee := Callee.value (Operand.func 19), args := #[Operand.tmp 85], argTypes := #[25] }, type := 44, pos := "law.go:91", after := #[{ on := 6, ground := Ground.data }, { on := 5, ground := Ground.chain }, { on := 5, ground := Ground.guard }], guard := some (5, false) }) rfl (fun K hK => ?_) AllReadyH.nil
        clear hHeld
        go_simp
        refine (counts_any gm 0 0 (s1.hunt : Int) (s1.st.mv : Int) wx.drew (HM.out.below (below_drew (Below.refl _ _)))).mono ?_
        rintro e u1 ⟨rfl, hb⟩
        have HU1 := Aside0.mk (show Below wx.heap.size wx u1 from Below.trans (below_drew (Below.refl _ _)) hb)
        clear hb k6 k2
        have k6 := (blk_cell (blk_below HBN.out HU1.out) 6).trans (show _ = some (Value.int .i64 (s1.hunt : Int)) from rfl)
        have k2 := (blk_cell (blk_below HBN.out HU1.out) 2).trans (show _ = some (Value.int .i64 (s1.st.mv : Int)) from rfl)
        refine hK.out _ _ ⟨k6, k2⟩ (fun hHeld => ?_)
        clear hK K
        try simp only [Act.put, List.setIfInBounds_toArray, List.set_cons_zero, List.set_cons_succ]
        refine wpAnyH_take (i := 14) (oi := { dst := some 93, op := Op.binOp BinOp.neq 44 (Operand.tmp 86) (Operand.tmp 92) 44, type := 4, pos := "law.go:91", after := #[{ on := 7, ground := Ground.data }, { on := 13, ground := Ground.data }, { on := 5, ground := Ground.guard }], guard := some (5, false) }) (v := ?_) rfl (by kernel_rfl) (by kernel_rfl) (by kernel_rfl) (fun _ _ _ h => h) (Or.inl ⟨by go_simp, ?_⟩) (by assumption) ?_
        rotate_left 1
        · intro w hSw
          (try dsimp only at hSw)
          go_simp
          all_goals try with_reducible rfl
        try simp only [Act.put, List.setIfInBounds_toArray, List.set_cons_zero, List.set_cons_succ]
        refine wpAnyH_take (i := 15) (oi := { dst := some 94, op := Op.pick (Operand.tmp 84) (Operand.const (Value.bool true)) (Operand.tmp 93), type := 4, pos := "law.go:91", after := #[{ on := 5, ground := Ground.data }, { on := 14, ground := Ground.data }], guard := none }) (v := ?_) rfl (by kernel_rfl) (by kernel_rfl) (by kernel_rfl) (fun _ _ _ h => h) (Or.inl ⟨by rfl, ?_⟩) (by assumption) ?_
        rotate_left 1
        · intro w hSw
          (try dsimp only at hSw)
          go_simp
          all_goals try with_reducible rfl
        try simp only [Act.put, List.setIfInBounds_toArray, List.set_cons_zero, List.set_cons_succ]
        refine wpAnyH_done (by kernel_rfl) ?_ _
        clear k6 k2 heq heq0 hzc
        have HPU := Aside0.mk (HPN.out.below HU1.out)
        have HCX := Aside0.mk (Kd.R_reads' HPU.out.row).2.2
        have HCY := Aside0.mk (Kd.R_reads' HPU.out.row2).2.2
        clear HM HBN HPN HU1
        go_wp2
        go_loopw [16] (fun v16 wr2 => ∃ (k : Nat), v16 = .int .i64 (k : Int) ∧ Aside0 (k ≤ X.length) ∧ Aside0 (Below u1.heap.size u1 wr2)) (fun v _ => X.length - (intOf v).toNat)
        case atStart => exact ⟨0, rfl, ⟨Nat.zero_le _⟩, ⟨Below.refl _ _⟩⟩
        case round =>
          obtain ⟨k, rfl, HK, HBK⟩ := hrel
          by_cases hk : k < X.length
          · have f1 : decide ((k : Int) < (X.length : Int)) = true := decide_eq_true (by omega)
            have f2 : decide (k < X.length) = true := decide_eq_true hk
            have HKL := Aside0.mk hk
            obtain ⟨ad1, A2, c1, rfl, p0, p1, p2, p3, p4⟩ := line_at (Kd.C_below HCX.out HBK.out) k (X[k]) (List.getElem?_eq_getElem _)
            obtain ⟨ad2, rfl, r0, r1, r2⟩ := lineq_at (Kd.C_below HCY.out HBK.out) k (X[k]) (List.getElem?_eq_getElem _)
            generalize (X[k]'hk) = xk at p0 p1 p2 p3 p4 r0 r1 r2
            obtain ⟨x0, x1, xs⟩ := xk
            dsimp only at p0 p1 p2 p3 p4 r0 r1 r2
            have t0 := fun m => Kd.C_string (P := Try.prog) (A := A2) (c := c1) Try.underlying38 Try.underlying5 Try.underlying9 (Kd.C_drewN p4 m)
            clear p3 p4 hk
            generalize strOfNums xs = str at t0 r2
            generalize xs.length = m at p2 t0
            have y0 : 0 ≤ (k : Int) := by omega
            have y1 : (k : Int) < (X.length : Int) := by have := HKL.out; omega
            have hw5 : wrap64 ((k : Int) + 1) = ((k + 1 : Nat) : Int) := wr_big (by omega) (by have := HXL.out; have := HKL.out; omega)
            have g0 : (x0 != x0) = false := bne_self_eq_false _
            have g1 : (x1 != x1) = false := bne_self_eq_false _
            go_wp2_with fail
            go_quiet (fail)
            go_wp2_with fail
            exact ⟨⟨k + 1, congrArg (Value.int .i64) hw5, HKL, ⟨pw_below_drewN HBK.out _⟩⟩, ms_step HKL.out hw5⟩
          · have f1 : decide ((k : Int) < (X.length : Int)) = false := decide_eq_false (by omega)
            have f2 : decide (k < X.length) = false := decide_eq_false hk
            have HPV := Aside0.mk (HPU.out.below HBK.out)
            have HER := Aside0.mk (err_some HPV.out.str)
            have hwi : wrap64 ((i : Int) + 1) = ((i + 1 : Nat) : Int) := wr_big (by omega) (by have := HIL.out; have := HF1.out; omega)
            clear hk HPU HCX HCY
            go_wp2_with fail
            refine HER.out.mono ?_
            rintro e w9 ⟨rfl, hb9⟩
            have HPW := Aside0.mk (HPV.out.below hb9)
            clear HER hb9
            have k8 := (blk_cell HPW.out.box 8).trans (show _ = some (Value.int .i64 s1.bad) from rfl)
            have k4 := (blk_cell HPW.out.box 4).trans (show _ = some (Value.int .i64 (s1.num : Int)) from rfl)
            generalize s1.bad = bd at k8 ⊢
            have g3 : ((s1.num : Int) != (s1.num : Int)) = false := bne_self_eq_false _
            have g4 : (bd != bd) = false := bne_self_eq_false _
            by_cases hbd : bd = 0
            · subst hbd
              rw [if_pos rfl]
              go_wp2_with fail
              exact ⟨⟨i + 1, A1, s1, congrArg (Value.int .i64) hwi, ⟨HPL.out _ _ _ _ HPW.out⟩⟩, ms_step (Nat.lt_succ_of_le HIL.out) hwi⟩
            · have d5 : (bd != 0) = true := bne_iff_ne.mpr hbd
              rw [if_neg hbd]
              clear hbd
              go_wp2_with fail
              exact ⟨⟨i + 1, A1, s1, congrArg (Value.int .i64) hwi, ⟨HPL.out _ _ _ _ HPW.out⟩⟩, ms_step (Nat.lt_succ_of_le HIL.out) hwi⟩
      · have e1 : decide ((i : Int) ≤ (l0.length : Int)) = false := decide_eq_false (by omega)
        have e2 : decide (i ≤ l0.length) = false := decide_eq_false (by omega)
        clear hi hj hle
        go_wp2_with fail
        refine (err_none _).mono ?_
        rintro e w7 ⟨rfl, hb7⟩
        have HB7 := Aside0.mk (below_step HP.out.bel hb7)
        clear hb7
        go_wp2_with fail
        refine (feed_none _ _ _ _).mono ?_
        rintro e w8 ⟨rfl, hb8⟩
        have HB8 := Aside0.mk (below_step (below_alloc HB7.out _) hb8)
        clear hb8
        go_wp2_with fail
        refine (end_none _).mono ?_
        rintro e w9 ⟨rfl, hb9⟩
        have HB9 := Aside0.mk (below_step HB8.out hb9)
        clear hb9
        go_wp2
        go_ret
        exact ⟨rfl, HB9.out⟩
end Go.Proofs.Ytgiaabgmnjaefaa.Str
