/- MeterBytes, the law function: it answers true for every two lists of bytes and every list of numbers. -/
import Derived.Test.YtkmocajeknafbaaMetT
namespace Go.Proofs.Ytkmocajeknafbaa.Met
open Go Go.RowKit Go.Proofs Go.Proofs.YtkmocajeknafbaaW.PrintWords Go.Proofs.YtkmocajeknafbaaW.PrintMore Go.Proofs.Ytkmocajeknafbaa.Mp Go.Maps
set_option linter.unusedVariables false
set_option linter.unusedSimpArgs false
attribute [local go_sem] max2_int min2_int max_two min_two max_three min_three
set_option maxHeartbeats 4000000 in
set_option maxRecDepth 100000 in
/-- Copy onto a row of one's own, counted. -/
theorem copyR_any (M : Option Nat) (a b c d : Int) (Av : Option Addr) (nv cv : Nat) (xs ys : List Int) (A : Option Addr) (m cp base : Nat) (ok : Nat → Prop) (w : World)
    (hM : MAt w M a b c d) (hO : Kd.R (Kd.int .u8) 5 w base ok (.slice Av nv cv) xs) (hR : Kd.C (Kd.int .u8) w A m ys) (hne : ∀ k, ok k → M ≠ some k) (hbase : base ≤ w.heap.size) (hd0 : 0 ≤ d) (hd1 : d + xs.length ≤ 1000000000000) :
    Calls Try.prog 18 #[.pointer (mp M), .slice Av nv cv, .slice A m cp] w fun e w' => e = .returned (.int .i64 ((min m xs.length : Nat) : Int)) ∧ Kd.R (Kd.int .u8) 5 w' base ok (.slice Av nv cv) (ys.take (min m xs.length) ++ xs.drop (min m xs.length)) ∧ MAt w' M a b c (d + ((min m xs.length : Nat) : Int)) ∧ Kept w w' (fun k => ok k ∨ M = some k) ∧ ∀ B, B ≤ base → (∀ k, M = some k → B ≤ k) → Below B w w' := by
  have HM := Aside0.mk hM
  have HO := Aside0.mk hO
  have HR := Aside0.mk hR
  have HNE := Aside0.mk hne
  have HBS := Aside0.mk hbase
  have hml : min m xs.length ≤ xs.length := Nat.min_le_right _ _
  clear hM hO hR hne hbase
  go_enter Try.func18, Try.ntmps18
  go_wp2_with ((with_reducible refine gate_dst (N := 10) rfl ?_); refine Kd.R_copy (0 : Int) (w0 := w) base rfl (.tmp 8) (.tmp 9) 22 22 5 rfl Try.underlying22 info5s (.slice Av nv cv) xs ys A m cp ok rfl rfl HO.out HR.out (Below.refl _ _) HBS.out ?_; intro w2 hr2 hb2 hg2)
  have HK2 := Aside0.mk (show Kept w w2 (fun k => ok k) from Kept.of_grown hg2 (Kept.refl _ _) (fun k hk => Or.inl (HO.out.1 k hk)))
  have HM2 := Aside0.mk (HM.out.kept HK2.out (fun k hk e => HNE.out k e hk))
  have HR2 := Aside0.mk hr2
  have HB2 := Aside0.mk hb2
  clear hr2 hb2 hg2
  generalize hk : min m xs.length = k at HR2 hml ⊢
  go_wp2_with fail
  refine (count_any M a b c d _ HM2.out).mono ?_
  rintro e w3 ⟨g, T, x, rfl, hC⟩
  obtain ⟨v, hx, k0, h0, h1⟩ := hC.at_ 3 (by decide)
  have f0 := blk_frozen hC.blk 3
  have hv0 : 0 ≤ v := by
    by_cases hm : M = none
    · rw [h0 hm]; exact Int.le_refl _
    · have := h1 hm; simp at this; omega
  have hv1 : v + k ≤ 1000000000000 := by
    by_cases hm : M = none
    · rw [h0 hm]; omega
    · have := h1 hm; simp at this; omega
  have HP := Aside0.mk (hC.put 3 (v + k) a b c (d + k) (fun hm => by have := h1 hm; simp at this; rw [this]; rfl))
  clear hx h0 h1 hC
  go_wp2
  go_ret
  have hp := HP.out
  rw [hk]
  refine ⟨rfl, ?_, hp.met, ?_, ?_⟩
  · exact Kd.R_kept HR2.out hp.kept (fun k hk e => HNE.out k hk e)
  · exact Kept.then_ (S2 := fun k => M = some k) (Kept.mono HK2.out (fun k hk => Or.inl hk)) hp.kept (fun k hk => Or.inl (Or.inr hk))
  · intro B hB hBM
    exact Below.trans (HB2.out.mono hB) (hp.bel B (by have := HK2.out.1; have := HBS.out; omega) hBM)
set_option maxHeartbeats 16000000 in
set_option maxRecDepth 100000 in
theorem bytes_skip (Ab Al At : Option Addr) (nb nl nt cb cl ct : Nat) (w : World) (h : 300 < nb ∨ 60 < nl ∨ 300 < nt) :
    Calls Try.prog 5 #[.slice Ab nb cb, .slice Al nl cl, .slice At nt ct] w fun e w' => e = .returned (.bool true) ∧ Below w.heap.size w w' := by
  by_cases h1 : 300 < nb
  · have d1 : decide ((nb : Int) > 300) = true := decide_eq_true (by omega)
    go_enter Try.func5, Try.ntmps5
    go_wp2_with fail
    refine (awake_calls _).mono ?_
    rintro e w1 ⟨rfl, hb1⟩
    have HB1 := Aside0.mk hb1
    clear hb1
    go_wp2
    go_ret
    exact ⟨rfl, HB1.out⟩
  · have d1 : decide ((nb : Int) > 300) = false := decide_eq_false (by omega)
    by_cases h2 : 60 < nl
    · have d2 : decide ((nl : Int) > 60) = true := decide_eq_true (by omega)
      go_enter Try.func5, Try.ntmps5
      go_wp2_with fail
      refine (awake_calls _).mono ?_
      rintro e w1 ⟨rfl, hb1⟩
      have HB1 := Aside0.mk hb1
      clear hb1
      go_wp2
      go_ret
      exact ⟨rfl, HB1.out⟩
    · have d2 : decide ((nl : Int) > 60) = false := decide_eq_false (by omega)
      have d3 : decide ((nt : Int) > 300) = true := decide_eq_true (by omega)
      go_enter Try.func5, Try.ntmps5
      go_wp2_with fail
      refine (awake_calls _).mono ?_
      rintro e w1 ⟨rfl, hb1⟩
      have HB1 := Aside0.mk hb1
      clear hb1
      go_wp2
      go_ret
      exact ⟨rfl, HB1.out⟩
theorem rd_front (a c : List Int) (i : Nat) (h : i < a.length) : rd (a ++ c) (i : Int) = rd a (i : Int) := by
  unfold rd
  rw [Int.toNat_natCast, List.getD_eq_getElem?_getD, List.getD_eq_getElem?_getD, List.getElem?_append_left h]
theorem rd_mix (b t : List Int) (k i : Nat) (hb : k ≤ b.length) (ht : k ≤ t.length) : rd (b.take k ++ t.drop k) (i : Int) = if i < k then rd b (i : Int) else rd t (i : Int) := by
  unfold rd
  rw [Int.toNat_natCast, List.getD_eq_getElem?_getD, List.getD_eq_getElem?_getD, List.getD_eq_getElem?_getD, List.getElem?_append, List.length_take, Nat.min_eq_left hb]
  split
  · rw [List.getElem?_take, if_pos (by assumption)]
  · rw [List.getElem?_drop]
    congr 2
    omega
set_option maxHeartbeats 16000000 in
set_option maxRecDepth 100000 in
theorem bytes_calls (Ab Al At : Option Addr) (cb cl ct : Nat) (b l t : List Int) (w : World) (hrb : Kd.C (Kd.int .u8) w Ab b.length b) (hcb : b.length ≤ cb) (hrl : Kd.C (Kd.int .i64) w Al l.length l) (hcl : l.length ≤ cl) (hrt : Kd.C (Kd.int .u8) w At t.length t) (hct : t.length ≤ ct) (lb : b.length ≤ 300) (ll : l.length ≤ 60) (lt : t.length ≤ 300) :
    Calls Try.prog 5 #[.slice Ab b.length cb, .slice Al l.length cl, .slice At t.length ct] w fun e w' => e = .returned (.bool true) ∧ Below w.heap.size w w' := by
  have HRB := Aside0.mk hrb
  have HRL := Aside0.mk hrl
  have HRT := Aside0.mk hrt
  have HLB := Aside0.mk lb
  have HLL := Aside0.mk ll
  have HLT := Aside0.mk lt
  have d1 : decide ((b.length : Int) > 300) = false := decide_eq_false (by omega)
  have d2 : decide ((l.length : Int) > 60) = false := decide_eq_false (by omega)
  have d3 : decide ((t.length : Int) > 300) = false := decide_eq_false (by omega)
  have heq := eqC 9998
  have huC := Try.underlying31
  clear hrb hcb hrl hcl hrt hct lb ll lt
  go_enter Try.func5, Try.ntmps5
  go_wp2_with fail
  refine (awake_calls _).mono ?_
  rintro e w0 ⟨rfl, hb0⟩
  have HB0 := Aside0.mk hb0
  clear hb0
  go_wp2_with fail
  refine (meter_new _).mono ?_
  rintro e w1 ⟨rfl, rfl⟩
  have HM := Aside0.mk (show MAt (w0.alloc (.cells #[.int .i64 0, .int .i64 0, .int .i64 0, .int .i64 0] 58)) (some w0.heap.size) 0 0 0 0 from fun g hg => by cases hg; exact blk_new w0 _)
  have HB1 := Aside0.mk (below_alloc HB0.out (.cells #[.int .i64 0, .int .i64 0, .int .i64 0, .int .i64 0] 58))
  have HG0 := Aside0.mk (show w.heap.size ≤ w0.heap.size from HB0.out.size)
  generalize hw1 : w0.alloc (.cells #[.int .i64 0, .int .i64 0, .int .i64 0, .int .i64 0] 58) = w1 at HM HB1 ⊢
  generalize w0.heap.size = gm at HM HG0 ⊢
  clear hw1 HB0
  have HGM : Aside0 (∀ k, (some gm) = some k → w.heap.size ≤ k) := ⟨fun k hk => by cases hk; exact HG0.out⟩
  go_wp2
  go_loopw [9, 10] (fun v9 v10 wr => ∃ (i n : Nat), v10 = .int .i64 (i : Int) ∧ v9 = .int .i64 (n : Int) ∧ Aside0 (i ≤ l.length) ∧ Aside0 (n ≤ i) ∧ Aside0 (MAt wr (some gm) 0 0 (n : Int) 0) ∧ Aside0 (Below w.heap.size w wr)) (fun _ v _ => l.length - (intOf v).toNat)
  case atStart => exact ⟨0, 0, rfl, rfl, ⟨Nat.zero_le _⟩, ⟨Nat.zero_le _⟩, HM, HB1⟩
  case round =>
    clear HM HB1
    obtain ⟨i, n, rfl, rfl, HI, HN, HM, HB⟩ := hrel
    by_cases hlt : i < l.length
    · have c3b0 : decide ((i : Int) < (l.length : Int)) = true := decide_eq_true (by omega)
      have c3b1 : decide (i < l.length) = true := decide_eq_true hlt
      have p3 : 0 ≤ (i : Int) := by omega
      have q3 : (i : Int) < (l.length : Int) := by omega
      obtain ⟨ad, eA, hx0⟩ := Kd.at_int HRL.out (i : Int) p3 q3
      subst eA
      rw [Int.toNat_natCast] at hx0
      generalize rd l (i : Int) = x at hx0
      have HX0 := Aside0.mk hx0
      have hx1 := pw_cell_below HB.out hx0
      have hnb : (n : Int) ≤ 100 := by have := HN.out; have := HI.out; have := HLL.out; omega
      have hn0 : 0 ≤ (n : Int) := by omega
      have hW2 := Aside0.mk (show wrap64 ((i : Int) + 1) = ((i + 1 : Nat) : Int) by have := HLL.out; unfold wrap64; omega)
      have HLI := Aside0.mk hlt
      clear hx0 hlt
      by_cases hin : 0 ≤ x ∧ x < (b.length : Int)
      · obtain ⟨h0, h1⟩ := hin
        go_wp2_with fail
        refine (read_in (some gm) 0 0 (n : Int) 0 Ab b.length cb b x wr HM.out (Kd.C_below HRB.out HB.out) rfl h0 h1 hn0 (by omega)).mono ?_
        rintro e w4 ⟨rfl, hp⟩
        have HM4 := Aside0.mk hp.met
        have HB4 := Aside0.mk (hp.step HB.out HGM.out)
        clear hp HM HB hx1
        have hx4 := pw_cell_below HB4.out HX0.out
        obtain ⟨ad2, eB, hy0⟩ := Kd.at_int HRB.out x h0 h1
        subst eB
        have hy4 := pw_cell_below HB4.out hy0
        clear hy0
        go_wp2
        go_roundw
        case rel => exact ⟨i + 1, n + 1, by first | exact congrArg (Value.int .i64) hW2.out | rfl, by first | rfl | go_num, ⟨HLI.out⟩, ⟨by have := HN.out; omega⟩, ⟨by have := HM4.out; first | exact this | (rw [Int.natCast_add]; exact this)⟩, HB4⟩
        case measure => exact ms_step HLI.out hW2.out
      · have hout : x < 0 ∨ (b.length : Int) ≤ x := by omega
        by_cases h0 : 0 ≤ x
        · have h1 : ¬ x < (b.length : Int) := by omega
          have h2 : (b.length : Int) ≤ x := by omega
          go_wp2_with fail
          refine (read_out (mp (some gm)) Ab b.length cb x wr hout).mono ?_
          rintro e w4 ⟨rfl, hb⟩
          have HM4 := Aside0.mk (HM.out.below hb)
          have HB4 := Aside0.mk (below_step HB.out hb)
          clear hb HM HB hx1
          have hx4 := pw_cell_below HB4.out HX0.out
          go_wp2
          go_roundw
          case rel => exact ⟨i + 1, n, by first | exact congrArg (Value.int .i64) hW2.out | rfl, rfl, ⟨HLI.out⟩, ⟨by have := HN.out; omega⟩, HM4, HB4⟩
          case measure => exact ms_step HLI.out hW2.out
        · have h1 : x < 0 := by omega
          go_wp2_with fail
          refine (read_out (mp (some gm)) Ab b.length cb x wr hout).mono ?_
          rintro e w4 ⟨rfl, hb⟩
          have HM4 := Aside0.mk (HM.out.below hb)
          have HB4 := Aside0.mk (below_step HB.out hb)
          clear hb HM HB hx1
          have hx4 := pw_cell_below HB4.out HX0.out
          go_wp2
          go_roundw
          case rel => exact ⟨i + 1, n, by first | exact congrArg (Value.int .i64) hW2.out | rfl, rfl, ⟨HLI.out⟩, ⟨by have := HN.out; omega⟩, HM4, HB4⟩
          case measure => exact ms_step HLI.out hW2.out
    · have hi : i = l.length := by have := HI.out; omega
      subst hi
      have c3b0 : decide ((l.length : Int) < (l.length : Int)) = false := decide_eq_false (by omega)
      have c3b1 : decide (l.length < l.length) = false := decide_eq_false (by omega)
      have HNB := Aside0.mk (show n ≤ 60 by have := HN.out; have := HLL.out; omega)
      clear hlt HI HN
      have HO0 := Aside0.mk (Kd.R_nil (Kd.int .u8) 5 wr wr.heap.size (fun _ => True))
      have HRT1 := Aside0.mk (Kd.C_below HRT.out HB.out)
      have HR0 := Aside0.mk (Below.refl wr.heap.size wr)
      go_wp2_with (first
        | (at_builtin; refine Kd.R_append_rows (Kd.int .u8) (w0 := wr) wr.heap.size rfl (.tmp 92) (.tmp 93) 22 5 (.int .u8 0) 1 rfl Try.underlying22 info5 rfl (by decide) (by decide) (.slice none 0 0) ([] : List Int) t At t.length ct (fun _ => True) (fun _ => False) rfl rfl HO0.out HRT1.out (fun _ _ h => h) (fun _ h => h.elim) (fun _ _ => trivial) HR0.out (HR0.out.size) (by have := HLT.out; simp; omega) ?_; intro v1 w2 hr1 hb1 hg1 hat1; rw [List.nil_append] at hr1; obtain ⟨A1, c1, hv1⟩ := Kd.R_slice hr1; subst hv1; have HO1 := Aside0.mk hr1; have HB2 := Aside0.mk hb1; clear hr1 hb1 hg1 hat1)
        | fail)
      have HM2 := Aside0.mk (HM.out.below HB2.out)
      have HBW2 := Aside0.mk (below_step HB.out HB2.out)
      have HGL := Aside0.mk (show gm < wr.heap.size from HM.out.lt _ rfl)
      have HGW := Aside0.mk (show w.heap.size ≤ wr.heap.size from HB.out.size)
      refine (copyR_any (some gm) 0 0 (n : Int) 0 A1 t.length c1 t b Ab b.length cb wr.heap.size (fun k => wr.heap.size ≤ k) w2 HM2.out (Kd.R_mono (Kd.R_bound HO1.out) (fun k hk => hk.2.1)) (Kd.C_below HRB.out HBW2.out) (fun k hk e => by have := HGL.out; injection e with e; omega) HB2.out.size (by decide) (by have := HLT.out; omega)).mono ?_
      rintro e w4 ⟨rfl, hr, hm, hk, hb⟩
      have HR4 := Aside0.mk hr
      have HM4 := Aside0.mk hm
      have HB4 := Aside0.mk (Below.trans HBW2.out (hb _ HGW.out HGM.out))
      clear hr hm hk hb HO0 HRT1 HR0 HO1 HB2 HM2 HBW2 HM HB
      have HMN := Aside0.mk (show min b.length t.length ≤ b.length ∧ min b.length t.length ≤ t.length by omega)
      have hmn : (if (t.length : Int) < (b.length : Int) then (t.length : Int) else (b.length : Int)) = ((min b.length t.length : Nat) : Int) := by split <;> omega
      have hmn2 : (if t.length < b.length then (t.length : Int) else (b.length : Int)) = ((min b.length t.length : Nat) : Int) := by split <;> omega
      generalize min b.length t.length = k at HR4 HM4 HMN hmn hmn2 ⊢
      have HLR := Aside0.mk (show (b.take k ++ t.drop k).length = t.length by have := HMN.out; rw [List.length_append, List.length_take, List.length_drop]; omega)
      have HRD := Aside0.mk (fun i => rd_mix b t k i HMN.out.1 HMN.out.2)
      generalize b.take k ++ t.drop k = dd at HR4 HLR HRD
      generalize wr.heap.size = base at HR4 HGL HGW
      obtain ⟨wo, rfl⟩ : ∃ wo : World, wo = wr := ⟨_, rfl⟩
      go_wp2
      go_loopw [16] (fun v16 wr => ∃ (i : Nat), v16 = .int .i64 (i : Int) ∧ Aside0 (i ≤ t.length) ∧ Aside0 (Kd.R (Kd.int .u8) 5 wr base (fun k => base ≤ k) (.slice A1 t.length c1) dd) ∧ Aside0 (MAt wr (some gm) 0 0 (n : Int) (0 + (k : Int))) ∧ Aside0 (Below w.heap.size w wr)) (fun v _ => t.length - (intOf v).toNat)
      case atStart => exact ⟨0, rfl, ⟨Nat.zero_le _⟩, HR4, HM4, HB4⟩
      case round =>
        clear HR4 HM4 HB4
        obtain ⟨i, rfl, HI, HR, HM, HB⟩ := hrel
        by_cases hlt : i < t.length
        · have c3b0 : decide ((i : Int) < (t.length : Int)) = true := decide_eq_true (by omega)
          have c3b1 : decide (i < t.length) = true := decide_eq_true hlt
          have p3 : 0 ≤ (i : Int) := by omega
          have q3 : (i : Int) < (t.length : Int) := by omega
          obtain ⟨go8, co8, eo8, gb8, gl8, cl8, HG8⟩ := Kd.R_form HR.out (by rw [HLR.out]; omega)
          rw [HLR.out] at eo8
          (first | cases eo8 | (injection eo8 with ea_ en_ ec_; (first | subst ea_ | (injection ea_ with ea_; subst ea_)); subst ec_; clear en_))
          obtain ⟨hx8, hf8⟩ := Kd.R_celln 0 HR.out (i : Int) p3 q3
          rw [Int.toNat_natCast] at hx8 hf8
          have hrd : rdOf 0 dd (i : Int) = if i < k then rd b (i : Int) else rd t (i : Int) := HRD.out i
          rw [hrd] at hx8
          have hW2 := Aside0.mk (show wrap64 ((i : Int) + 1) = ((i + 1 : Nat) : Int) by have := HLT.out; unfold wrap64; omega)
          have HLI := Aside0.mk hlt
          clear HG8 gb8 gl8 cl8 hlt hrd hf8
          by_cases hik : i < k
          · rw [if_pos hik] at hx8
            have e1 : decide ((i : Int) < (k : Int)) = true := decide_eq_true (by omega)
            have e2 : decide (i < k) = true := decide_eq_true hik
            have e3 : decide ((k : Int) ≤ (i : Int)) = false := decide_eq_false (by omega)
            have e4 : decide (k ≤ i) = false := decide_eq_false (by omega)
            have e5 : ∀ x : Int, (x != x) = false := fun x => bne_self_eq_false x
            obtain ⟨ad2, eB, hy0⟩ := Kd.at_int HRB.out (i : Int) p3 (by have := HMN.out; omega)
            subst eB
            have hy4 := pw_cell_below HB.out hy0
            rw [Int.toNat_natCast] at hy4
            have p4 : (i : Int) < (b.length : Int) := by have := HMN.out; omega
            clear hy0 hik
            go_wp2
            go_quiet (fail)
            go_wp2
            go_roundw
            case rel => exact ⟨i + 1, by first | exact congrArg (Value.int .i64) hW2.out | rfl, ⟨HLI.out⟩, ⟨Kd.R_drewN HR.out _⟩, ⟨HM.out⟩, ⟨pw_below_drewN HB.out _⟩⟩
            case measure => exact ms_step HLI.out hW2.out
          · rw [if_neg hik] at hx8
            have e1 : decide ((i : Int) < (k : Int)) = false := decide_eq_false (by omega)
            have e2 : decide (i < k) = false := decide_eq_false hik
            have e3 : decide ((k : Int) ≤ (i : Int)) = true := decide_eq_true (by omega)
            have e4 : decide (k ≤ i) = true := decide_eq_true (by omega)
            have e5 : ∀ x : Int, (x != x) = false := fun x => bne_self_eq_false x
            obtain ⟨ad2, eB, hy0⟩ := Kd.at_int HRT.out (i : Int) p3 q3
            subst eB
            have hy4 := pw_cell_below HB.out hy0
            rw [Int.toNat_natCast] at hy4
            clear hy0 hik
            go_wp2
            go_quiet (fail)
            go_wp2
            go_roundw
            case rel => exact ⟨i + 1, by first | exact congrArg (Value.int .i64) hW2.out | rfl, ⟨HLI.out⟩, ⟨Kd.R_drewN HR.out _⟩, ⟨HM.out⟩, ⟨pw_below_drewN HB.out _⟩⟩
            case measure => exact ms_step HLI.out hW2.out
        · have hi : i = t.length := by have := HI.out; omega
          subst hi
          have c3b0 : decide ((t.length : Int) < (t.length : Int)) = false := decide_eq_false (by omega)
          have c3b1 : decide (t.length < t.length) = false := decide_eq_false (by omega)
          have HM2 := Aside0.mk (show MAt wr (some gm) 0 0 (n : Int) (k : Int) by have := HM.out; rwa [Int.zero_add] at this)
          clear hlt HI HM HR
          go_wp2_with fail
          refine (counts_any _ _ _ _ _ _ HM2.out).mono ?_
          rintro e w6 ⟨rfl, hb⟩
          have HB6 := Aside0.mk (below_step HB.out hb)
          clear hb HM2 HB
          go_wp2
          go_ret
          exact ⟨rfl, HB6.out⟩
end Go.Proofs.Ytkmocajeknafbaa.Met
