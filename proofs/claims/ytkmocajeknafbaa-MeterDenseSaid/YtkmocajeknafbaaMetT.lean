/- MeterTexts, the law function: it answers true for every list of bytes and every list of numbers. -/
import Derived.Test.YtkmocajeknafbaaMetG
namespace Go.Proofs.Ytkmocajeknafbaa.Met
open Go Go.RowKit Go.Proofs Go.Proofs.YtkmocajeknafbaaW.PrintWords Go.Proofs.YtkmocajeknafbaaW.PrintMore Go.Proofs.Ytkmocajeknafbaa.Mp Go.Maps
set_option linter.unusedVariables false
set_option linter.unusedSimpArgs false
theorem TxtAt.far {w : World} {gt base : Nat} {M : Option Nat} {A : Option Addr} {cp : Nat} {l : List Int} (h : TxtAt w gt M base A cp l) (g k : Nat) (v : Value) (hg : g < base) : TxtAt (w.setCell ⟨g, k, none⟩ v) gt M base A cp l :=
  h.kept (Kept.setCell (S := fun k => k = g) (p := ⟨g, k, none⟩) (Kept.refl _ _) (Or.inl rfl) v) (fun j hj _ e => by omega)
set_option maxHeartbeats 16000000 in
set_option maxRecDepth 100000 in
theorem texts_skip (Ab Al : Option Addr) (nb nl cb cl : Nat) (w : World) (h : 300 < nb ∨ 100 < nl) :
    Calls Try.prog 3 #[.slice Ab nb cb, .slice Al nl cl] w fun e w' => e = .returned (.bool true) ∧ Below w.heap.size w w' := by
  by_cases h1 : 300 < nb
  · have d1 : decide ((nb : Int) > 300) = true := decide_eq_true (by omega)
    go_enter Try.func3, Try.ntmps3
    go_wp2_with fail
    refine (awake_calls _).mono ?_
    rintro e w1 ⟨rfl, hb1⟩
    have HB1 := Aside0.mk hb1
    clear hb1
    go_wp2
    go_ret
    exact ⟨rfl, HB1.out⟩
  · have d1 : decide ((nb : Int) > 300) = false := decide_eq_false (by omega)
    have d2 : decide ((nl : Int) > 100) = true := decide_eq_true (by omega)
    go_enter Try.func3, Try.ntmps3
    go_wp2_with fail
    refine (awake_calls _).mono ?_
    rintro e w1 ⟨rfl, hb1⟩
    have HB1 := Aside0.mk hb1
    clear hb1
    go_wp2
    go_ret
    exact ⟨rfl, HB1.out⟩
set_option maxHeartbeats 16000000 in
set_option maxRecDepth 100000 in
theorem texts_calls (Ab Al : Option Addr) (cb cl : Nat) (b l : List Int) (w : World) (hrb : Kd.C (Kd.int .u8) w Ab b.length b) (hcb : b.length ≤ cb) (hrl : Kd.C (Kd.int .i64) w Al l.length l) (hcl : l.length ≤ cl) (lb : b.length ≤ 300) (ll : l.length ≤ 100) :
    Calls Try.prog 3 #[.slice Ab b.length cb, .slice Al l.length cl] w fun e w' => e = .returned (.bool true) ∧ Below w.heap.size w w' := by
  have HRB := Aside0.mk hrb
  have HRL := Aside0.mk hrl
  have HLB := Aside0.mk lb
  have HLL := Aside0.mk ll
  have d1 : decide ((b.length : Int) > 300) = false := decide_eq_false (by omega)
  have d2 : decide ((l.length : Int) > 100) = false := decide_eq_false (by omega)
  have heq := eqC 9998
  have huC := Try.underlying31
  have hfd := fun a b c d W => (fieldC a b c d W).1
  clear hrb hcb hrl hcl lb ll
  go_enter Try.func3, Try.ntmps3
  go_wp2_with fail
  refine (awake_calls _).mono ?_
  rintro e w0 ⟨rfl, hb0⟩
  have HB0 := Aside0.mk hb0
  clear hb0
  go_wp2_with fail
  refine (meter_new _).mono ?_
  rintro e w1 ⟨rfl, rfl⟩
  have HM := Aside0.mk (show MAt (w0.alloc (.cells #[.int .i64 0, .int .i64 0, .int .i64 0, .int .i64 0] 58)) (some w0.heap.size) 0 0 0 0 from fun g hg => by cases hg; exact blk_new w0 _)
  have HB1 := Aside0.mk (below_alloc HB0.out (.cells #[.int .i64 0, .int .i64 0, .int .i64 0, .int .i64 0] 58))
  have HG0 := Aside0.mk (show w.heap.size ≤ w0.heap.size from HB0.out.size)
  have HGL := Aside0.mk (show w0.heap.size < (w0.alloc (.cells #[.int .i64 0, .int .i64 0, .int .i64 0, .int .i64 0] 58)).heap.size by rw [World.size_alloc]; omega)
  generalize hw1 : w0.alloc (.cells #[.int .i64 0, .int .i64 0, .int .i64 0, .int .i64 0] 58) = w1 at HM HB1 HGL ⊢
  generalize w0.heap.size = gm at HM HGL HG0 ⊢
  clear hw1 HB0
  have HGM : Aside0 (∀ k, (some gm) = some k → w.heap.size ≤ k) := ⟨fun k hk => by cases hk; exact HG0.out⟩
  have HO0 := Aside0.mk (Kd.R_nil (Kd.int .u8) 5 w1 w1.heap.size (fun _ => True))
  have HRB1 := Aside0.mk (Kd.C_below HRB.out HB1.out)
  have HR0 := Aside0.mk (Below.refl w1.heap.size w1)
  go_wp2_with (first
    | (at_builtin; refine Kd.R_append_rows (Kd.int .u8) (w0 := w1) w1.heap.size rfl (.tmp 26) (.tmp 27) 22 5 (.int .u8 0) 1 rfl Try.underlying22 info5 rfl (by decide) (by decide) (.slice none 0 0) ([] : List Int) b Ab b.length cb (fun _ => True) (fun _ => False) rfl rfl HO0.out HRB1.out (fun _ _ h => h) (fun _ h => h.elim) (fun _ _ => trivial) HR0.out (HR0.out.size) (by have := HLB.out; simp; omega) ?_; intro v1 w2 hr1 hb1 hg1 hat1; rw [List.nil_append] at hr1; obtain ⟨A1, c1, hv1⟩ := Kd.R_slice hr1; subst hv1; have HO1 := Aside0.mk hr1; have HB2 := Aside0.mk hb1; clear hr1 hb1 hg1 hat1)
    | fail)
  have HM2 := Aside0.mk (HM.out.below HB2.out)
  have HC1 := Aside0.mk (Kd.R_reads' HO1.out)
  have HGL2 := Aside0.mk (HB2.out.size)
  refine (text_calls (some gm) A1 c1 b w2 HC1.out.2.2 HC1.out.2.1 (by have := HLB.out; omega) (fun k hk => by cases hk; have := HGL.out; have := HGL2.out; omega)).mono ?_
  rintro e w3 ⟨gt, A, cp, rfl, ht, hb⟩
  have HT3 := Aside0.mk ht
  have HM3 := Aside0.mk (HM2.out.below hb)
  have HB3 := Aside0.mk (below_step (below_step HB1.out HB2.out) hb)
  have HO3 := Aside0.mk (Kd.R_mono (Kd.R_below (Kd.R_bound HO1.out) hb) (ok' := fun k => w1.heap.size ≤ k ∧ k < w2.heap.size) (fun k hk => ⟨hk.2.1, hk.2.2.1⟩))
  clear ht hb HO0 HRB1 HR0 HO1 HB2 HM2 HC1 HM HB1
  generalize w2.heap.size = base at HT3 HO3
  generalize hw1s : w1.heap.size = g1 at HO3 HGL
  clear hw1s HGL2
  go_wp2
  go_loopw [9] (fun v9 wr => ∃ (k : Nat) (xs : List Int), v9 = .int .i64 (k : Int) ∧ Aside0 (k ≤ b.length) ∧ Aside0 (xs.length = b.length) ∧ Aside0 (Kd.R (Kd.int .u8) 5 wr g1 (fun k => g1 ≤ k ∧ k < base) (.slice A1 b.length c1) xs) ∧ Aside0 (TxtAt wr gt (some gm) base A cp b) ∧ Aside0 (MAt wr (some gm) 0 0 0 0) ∧ Aside0 (Below w.heap.size w wr)) (fun v _ => b.length - (intOf v).toNat)
  case atStart => exact ⟨0, b, rfl, ⟨Nat.zero_le _⟩, ⟨rfl⟩, HO3, HT3, HM3, HB3⟩
  case round =>
    clear HO3 HT3 HM3 HB3
    obtain ⟨k, xs, rfl, HK, HXL, HRk, HTk, HMk, HBk⟩ := hrel
    by_cases hlt : k < b.length
    · have c3b0 : decide ((k : Int) < (b.length : Int)) = true := decide_eq_true (by omega)
      have c3b1 : decide (k < b.length) = true := decide_eq_true hlt
      have p3 : 0 ≤ (k : Int) := by omega
      have q3 : (k : Int) < (b.length : Int) := by omega
      obtain ⟨go8, co8, eo8, gb8, gl8, cl8, HG8⟩ := Kd.R_form HRk.out (by rw [HXL.out]; omega)
      rw [HXL.out] at eo8
      (first | cases eo8 | (injection eo8 with ea_ en_ ec_; (first | subst ea_ | (injection ea_ with ea_; subst ea_)); subst ec_; clear en_))
      obtain ⟨hx8, hf8⟩ := Kd.R_celln 0 HRk.out (k : Int) p3 q3
      rw [Int.toNat_natCast] at hx8 hf8
      generalize rdOf 0 xs (k : Int) = xk at hx8
      have HOK := Aside0.mk (HRk.out.1 go8 rfl)
      have HPT := Aside0.mk (Kd.R_putg HRk.out (k : Int) (IntKind.u8.wrap (xk + 1)))
      have HTS := Aside0.mk (HTk.out.far go8 k (.int .u8 (IntKind.u8.wrap (xk + 1))) HOK.out.2)
      have HMS := Aside0.mk (HMk.out.far (p := ⟨go8, k, none⟩) (fun e => by have := HOK.out; have := HGL.out; injection e with e; have e : gm = go8 := e; omega) (.int .u8 (IntKind.u8.wrap (xk + 1))))
      have HBS := Aside0.mk (Below.setCell (p := ⟨go8, k, none⟩) HBk.out (by have := HOK.out; have := HGL.out; have := HG0.out; show w.heap.size ≤ go8; omega) (.int .u8 (IntKind.u8.wrap (xk + 1))))
      rw [Int.toNat_natCast] at HPT
      have hW2 := Aside0.mk (show wrap64 ((k : Int) + 1) = ((k + 1 : Nat) : Int) by have := HLB.out; unfold wrap64; omega)
      have HLTk := Aside0.mk hlt
      clear HG8 gb8 gl8 cl8 hlt
      go_wp2
      go_roundw
      case rel => exact ⟨k + 1, _, by first | exact congrArg (Value.int .i64) hW2.out | rfl, ⟨HLTk.out⟩, ⟨by rw [List.length_set]; exact HXL.out⟩, ⟨HPT.out.1⟩, HTS, HMS, HBS⟩
      case measure => exact ms_step HLTk.out hW2.out
    · have hk : k = b.length := by have := HK.out; omega
      subst hk
      have c3b0 : decide ((b.length : Int) < (b.length : Int)) = false := decide_eq_false (by omega)
      have c3b1 : decide (b.length < b.length) = false := decide_eq_false (by omega)
      clear hlt HRk HXL HK
      go_wp2
      obtain ⟨wo, rfl⟩ : ∃ wo : World, wo = wr := ⟨_, rfl⟩
      go_loopw [11, 12] (fun v11 v12 wr => ∃ (i n : Nat), v12 = .int .i64 (i : Int) ∧ v11 = .int .i64 (n : Int) ∧ Aside0 (i ≤ l.length) ∧ Aside0 (n ≤ i) ∧ Aside0 (TxtAt wr gt (some gm) base A cp b) ∧ Aside0 (MAt wr (some gm) (n : Int) 0 0 0) ∧ Aside0 (Below w.heap.size w wr)) (fun _ v _ => l.length - (intOf v).toNat)
      case atStart => exact ⟨0, 0, rfl, rfl, ⟨Nat.zero_le _⟩, ⟨Nat.zero_le _⟩, HTk, HMk, HBk⟩
      case round =>
        clear HTk HMk HBk
        obtain ⟨i, n, rfl, rfl, HI, HN, HT, HM, HB⟩ := hrel
        by_cases hlt : i < l.length
        · have c3b0 : decide ((i : Int) < (l.length : Int)) = true := decide_eq_true (by omega)
          have c3b1 : decide (i < l.length) = true := decide_eq_true hlt
          have p3 : 0 ≤ (i : Int) := by omega
          have q3 : (i : Int) < (l.length : Int) := by omega
          obtain ⟨ad, eA, hx0⟩ := Kd.at_int HRL.out (i : Int) p3 q3
          subst eA
          rw [Int.toNat_natCast] at hx0
          generalize rd l (i : Int) = x at hx0
          have HX0 := Aside0.mk hx0
          have hx1 := pw_cell_below HB.out hx0
          have hnb : (n : Int) ≤ 100 := by have := HN.out; have := HI.out; have := HLL.out; omega
          have hn0 : 0 ≤ (n : Int) := by omega
          have hW2 := Aside0.mk (show wrap64 ((i : Int) + 1) = ((i + 1 : Nat) : Int) by have := HLL.out; unfold wrap64; omega)
          have HLT := Aside0.mk hlt
          clear hx0 hlt
          by_cases hin : 0 ≤ x ∧ x < (b.length : Int)
          · obtain ⟨h0, h1⟩ := hin
            obtain ⟨ad2, eB, hy0⟩ := Kd.at_int HRB.out x h0 h1
            subst eB
            have hy1 := pw_cell_below HB.out hy0
            clear hy0
            go_wp2_with fail
            refine (at_in (n : Int) 0 0 0 x HT.out HM.out h0 h1 hn0 (by omega)).mono ?_
            rintro e w4 ⟨rfl, ht, hp⟩
            have HT4 := Aside0.mk ht
            have HM4 := Aside0.mk hp.met
            have HB4 := Aside0.mk (hp.step HB.out HGM.out)
            clear ht hp HT HM HB hx1 hy1
            go_wp2_with fail
            refine (counts_any _ _ _ _ _ _ HM4.out).mono ?_
            rintro e w5 ⟨rfl, hb⟩
            have HT5 := Aside0.mk (HT4.out.below hb)
            have HM5 := Aside0.mk (HM4.out.below hb)
            have HB5 := Aside0.mk (below_step HB4.out hb)
            clear hb HT4 HM4 HB4
            have hx5 := pw_cell_below HB5.out HX0.out
            go_wp2_with fail
            refine (at_none x _).mono ?_
            rintro e w6 ⟨rfl, hb⟩
            have HT6 := Aside0.mk (HT5.out.below hb)
            have HM6 := Aside0.mk (HM5.out.below hb)
            have HB6 := Aside0.mk (below_step HB5.out hb)
            clear hb HT5 HM5 HB5 hx5
            go_wp2
            go_roundw
            case rel => exact ⟨i + 1, n + 1, by first | exact congrArg (Value.int .i64) hW2.out | rfl, by first | rfl | go_num, ⟨HLT.out⟩, ⟨by have := HN.out; omega⟩, HT6, ⟨by have := HM6.out; first | exact this | (rw [Int.natCast_add]; exact this)⟩, HB6⟩
            case measure => exact ms_step HLT.out hW2.out
          · have hout : x < 0 ∨ (b.length : Int) ≤ x := by omega
            by_cases h0 : 0 ≤ x
            · have h1 : ¬ x < (b.length : Int) := by omega
              have h2 : (b.length : Int) ≤ x := by omega
              go_wp2_with fail
              refine (at_out x HT.out hout).mono ?_
              rintro e w4 ⟨rfl, hb⟩
              have HT4 := Aside0.mk (HT.out.below hb)
              have HM4 := Aside0.mk (HM.out.below hb)
              have HB4 := Aside0.mk (below_step HB.out hb)
              clear hb HT HM HB hx1
              go_wp2_with fail
              refine (counts_any _ _ _ _ _ _ HM4.out).mono ?_
              rintro e w5 ⟨rfl, hb⟩
              have HT5 := Aside0.mk (HT4.out.below hb)
              have HM5 := Aside0.mk (HM4.out.below hb)
              have HB5 := Aside0.mk (below_step HB4.out hb)
              clear hb HT4 HM4 HB4
              have hx5 := pw_cell_below HB5.out HX0.out
              go_wp2_with fail
              refine (at_none x _).mono ?_
              rintro e w6 ⟨rfl, hb⟩
              have HT6 := Aside0.mk (HT5.out.below hb)
              have HM6 := Aside0.mk (HM5.out.below hb)
              have HB6 := Aside0.mk (below_step HB5.out hb)
              clear hb HT5 HM5 HB5 hx5
              go_wp2
              go_roundw
              case rel => exact ⟨i + 1, n, by first | exact congrArg (Value.int .i64) hW2.out | rfl, rfl, ⟨HLT.out⟩, ⟨by have := HN.out; omega⟩, HT6, HM6, HB6⟩
              case measure => exact ms_step HLT.out hW2.out
            · have h1 : x < 0 := by omega
              go_wp2_with fail
              refine (at_out x HT.out hout).mono ?_
              rintro e w4 ⟨rfl, hb⟩
              have HT4 := Aside0.mk (HT.out.below hb)
              have HM4 := Aside0.mk (HM.out.below hb)
              have HB4 := Aside0.mk (below_step HB.out hb)
              clear hb HT HM HB hx1
              go_wp2_with fail
              refine (counts_any _ _ _ _ _ _ HM4.out).mono ?_
              rintro e w5 ⟨rfl, hb⟩
              have HT5 := Aside0.mk (HT4.out.below hb)
              have HM5 := Aside0.mk (HM4.out.below hb)
              have HB5 := Aside0.mk (below_step HB4.out hb)
              clear hb HT4 HM4 HB4
              have hx5 := pw_cell_below HB5.out HX0.out
              go_wp2_with fail
              refine (at_none x _).mono ?_
              rintro e w6 ⟨rfl, hb⟩
              have HT6 := Aside0.mk (HT5.out.below hb)
              have HM6 := Aside0.mk (HM5.out.below hb)
              have HB6 := Aside0.mk (below_step HB5.out hb)
              clear hb HT5 HM5 HB5 hx5
              go_wp2
              go_roundw
              case rel => exact ⟨i + 1, n, by first | exact congrArg (Value.int .i64) hW2.out | rfl, rfl, ⟨HLT.out⟩, ⟨by have := HN.out; omega⟩, HT6, HM6, HB6⟩
              case measure => exact ms_step HLT.out hW2.out
        · have hi : i = l.length := by have := HI.out; omega
          subst hi
          have c3b0 : decide ((l.length : Int) < (l.length : Int)) = false := decide_eq_false (by omega)
          have c3b1 : decide (l.length < l.length) = false := decide_eq_false (by omega)
          clear hlt HI HN
          go_wp2_with fail
          refine (len_calls HT.out).mono ?_
          rintro e w4 ⟨rfl, hb⟩
          have HM4 := Aside0.mk (HM.out.below hb)
          have HB4 := Aside0.mk (below_step HB.out hb)
          clear hb HT HM HB
          go_wp2_with fail
          refine (len_none _).mono ?_
          rintro e w5 ⟨rfl, hb⟩
          have HM5 := Aside0.mk (HM4.out.below hb)
          have HB5 := Aside0.mk (below_step HB4.out hb)
          clear hb HM4 HB4
          go_wp2_with fail
          refine (counts_any _ _ _ _ _ _ HM5.out).mono ?_
          rintro e w6 ⟨rfl, hb⟩
          have HB6 := Aside0.mk (below_step HB5.out hb)
          clear hb HM5 HB5
          go_wp2
          go_ret
          exact ⟨rfl, HB6.out⟩
end Go.Proofs.Ytkmocajeknafbaa.Met
