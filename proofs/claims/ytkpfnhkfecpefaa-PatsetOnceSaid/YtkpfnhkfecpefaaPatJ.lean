/- PatsetTwice: a file twice has the patterns of the file. -/
import Derived.Test.YtkpfnhkfecpefaaPatI
import Derived.Test.YtkpfnhkfecpefaaPatH
namespace Go.Proofs.Ytkpfnhkfecpefaa.Pat
open Go Go.RowKit Go.Proofs Go.Proofs.YtkpfnhkfecpefaaW.PrintWords Go.Proofs.YtkpfnhkfecpefaaW.PrintMore Go.Proofs.YtkpfnhkfecpefaaW.PrintLast Go.Proofs.Ytkpfnhkfecpefaa.Lin
set_option linter.unusedVariables false
set_option linter.unusedSimpArgs false
attribute [local go_sem] max2_int min2_int max_two min_two max_three min_three
theorem ends_nums (l : List Int) (hl : l.length ≤ 500) : (l.length = 0 ∧ endsF l = true) ∨ (0 < l.length ∧ ((rd l ((l.length - 1 : Nat) : Int)) == 10) = endsF l) := by
  rcases Nat.eq_zero_or_pos l.length with h | h
  · left
    rw [List.length_eq_zero_iff.mp h]
    exact ⟨rfl, rfl⟩
  · right
    refine ⟨h, ?_⟩
    have hne : l ≠ [] := fun e => by rw [e] at h; exact Nat.lt_irrefl _ h
    unfold endsF
    rw [ends_last, dif_neg hne]
    unfold rd
    rw [Int.toNat_natCast, List.getD_eq_getElem?_getD, List.getElem?_eq_getElem (by omega), Option.getD_some, List.getLast_eq_getElem, Bool.eq_iff_iff]
    simp
set_option maxHeartbeats 16000000 in
set_option maxRecDepth 100000 in
theorem twice_calls (A0 : Option Addr) (c0 : Nat) (l0 : List Int) (fd : Bool) (w : World) (hr0 : Kd.C (Kd.int .u8) w A0 l0.length l0) (hc0 : l0.length ≤ c0) :
    Calls Try.prog 7 #[.slice A0 l0.length c0, .bool fd] w fun e w' => e = .returned (.bool true) ∧ Below w.heap.size w w' := by
  have HR0 := Aside0.mk hr0
  have HC0 := Aside0.mk hc0
  have hu := Try.underlying27
  clear hr0 hc0
  by_cases hlen : 500 < l0.length
  · have d1 : decide ((l0.length : Int) > 500) = true := decide_eq_true (by omega)
    have d2 : decide ((500 : Int) < (l0.length : Int)) = true := decide_eq_true (by omega)
    have d3 : decide (500 < l0.length) = true := decide_eq_true hlen
    clear hlen
    go_enter Try.func7, Try.ntmps7
    go_wp2_with fail
    refine (awake_calls _).mono ?_
    rintro e w1 ⟨rfl, hb1⟩
    have HB1 := Aside0.mk hb1
    clear hb1
    go_wp2
    go_ret
    exact ⟨rfl, HB1.out⟩
  have d1 : decide ((l0.length : Int) > 500) = false := decide_eq_false (by omega)
  have d2 : decide ((500 : Int) < (l0.length : Int)) = false := decide_eq_false (by omega)
  have d3 : decide (500 < l0.length) = false := decide_eq_false hlen
  have HLE := Aside0.mk (show l0.length ≤ 500 by omega)
  clear hlen
  go_enter Try.func7, Try.ntmps7
  go_wp2_with fail
  refine (awake_calls _).mono ?_
  rintro e w1 ⟨rfl, hb1⟩
  have HB1 := Aside0.mk hb1
  have HR1 := Aside0.mk (Kd.C_below HR0.out hb1)
  have hle1 : (l0 ++ [10]).length = l0.length + 1 := (by simp)
  have hle2 : ((l0 ++ [10]) ++ l0).length = l0.length + 1 + l0.length := (by rw [List.length_append, hle1])
  have hle3 : (l0 ++ 10 :: l0) = (l0 ++ [10]) ++ l0 := (by simp)
  clear hb1
  go_wp2_with first
    | (at_builtin; refine Kd.R_append_rows (Kd.int .u8) (w0 := w1) (W := w1) w1.heap.size rfl (.tmp 21) (.tmp 22) 22 5 (.int .u8 0) 1 rfl Try.underlying22 infoB rfl (by decide) (by decide) (.slice none 0 0) [] l0 A0 l0.length c0 (fun _ => True) (fun _ => False) rfl rfl (Kd.R_nil _ _ _ _ _) HR1.out (fun _ _ h => h) (fun _ h => h.elim) (fun _ _ => trivial) (Below.refl _ _) (Nat.le_refl _) (by have := HLE.out; simp only [List.length_nil]; omega) ?_; intro v1 w2 hr2 hb2 hg2 hat2; rw [List.nil_append] at hr2; obtain ⟨A2, c2, hv2⟩ := Kd.R_slice hr2; subst hv2; have HC2 := Aside0.mk hr2; have HB2 := Aside0.mk hb2; clear hr2 hb2 hg2 hat2)
    | (at_builtin; refine Kd.R_append (Kd.int .u8) (w0 := w1) (W := w2) w1.heap.size rfl (.tmp 24) (.tmp 25) 22 5 (.int .u8 0) 1 rfl Try.underlying22 infoB rfl (by decide) (by decide) (.slice A2 l0.length c2) l0 10 [.int .u8 10] (fun _ => True) (fun _ => False) rfl rfl rfl (fun _ h => h.elim) (fun _ _ => trivial) HC2.out HB2.out HB2.out.size (by have := HLE.out; omega) ?_; intro v1 w3 hr3 hb3 hg3 hat3; obtain ⟨A3, c3, hv3⟩ := Kd.R_slice hr3; rw [hle1] at hv3; subst hv3; have HC3 := Aside0.mk hr3; have HB3 := Aside0.mk hb3; clear hr3 hb3 hg3 hat3)
    | (at_builtin; refine Kd.R_append_rows (Kd.int .u8) (w0 := w1) (W := w3) w1.heap.size rfl (.tmp 27) (.tmp 28) 22 5 (.int .u8 0) 1 rfl Try.underlying22 infoB rfl (by decide) (by decide) (.slice A3 (l0.length + 1) c3) (l0 ++ [10]) l0 A0 l0.length c0 (fun _ => True) (fun _ => False) rfl rfl (hle1 ▸ HC3.out) (Kd.C_below HR1.out HB3.out) (fun _ _ h => h) (fun _ h => h.elim) (fun _ _ => trivial) HB3.out HB3.out.size (by have := HLE.out; rw [hle1]; omega) ?_; intro v1 w4 hr4 hb4 hg4 hat4; obtain ⟨A4, c4, hv4⟩ := Kd.R_slice hr4; rw [hle2] at hv4; subst hv4; have HC4 := Aside0.mk (Kd.R_reads' hr4); have HB4 := Aside0.mk hb4; clear hr4 hb4 hg4 hat4)
  have HR4 := Aside0.mk (Kd.C_below HR1.out HB4.out)
  clear HC2 HB2 HC3 HB3
  obtain ⟨f1, f2, f3, f4⟩ := load_facts l0 fd
  have HF2 := Aside0.mk (And.intro f1 f4)
  have HTW := Aside0.mk (load_twice l0 fd HLE.out)
  have hz1 : loadE l0 = 0 := if_neg (by have := HLE.out; omega)
  have hz2 : loadE (l0 ++ 10 :: l0) = 0 := if_neg (by rw [List.length_append, List.length_cons]; have := HLE.out; omega)
  have HLC := Aside0.mk (show Calls Try.prog 10 #[.slice A0 l0.length c0, .bool fd] w4 fun e w' => ∃ v, e = .returned (.tuple #[v, .int .i64 0]) ∧ SetC w' v (loadP l0 fd) ∧ Below w4.heap.size w4 w' by
    rw [← hz1]; exact load_calls w4 A0 c0 l0.length l0 fd rfl HR4.out HC0.out)
  have HLD := Aside0.mk (fun (W : World) (hb : Below w4.heap.size w4 W) => show Calls Try.prog 10 #[.slice A4 (l0.length + 1 + l0.length) c4, .bool fd] W fun e w' => ∃ v, e = .returned (.tuple #[v, .int .i64 0]) ∧ SetC w' v (loadP (l0 ++ 10 :: l0) fd) ∧ Below W.heap.size W w' by
    rw [← hz2]; exact load_calls W A4 c4 _ (l0 ++ 10 :: l0) fd (by rw [hle3, hle2]) (by rw [hle3]; exact Kd.C_below HC4.out.2.2 hb) (by rw [hle3, hle2]; exact HC4.out.2.1))
  obtain ⟨ft, hft⟩ : ∃ ft : Bool, ft = ((loadP l0 fd).e || endsF l0) := ⟨_, rfl⟩
  rw [HTW.out, ← hft] at HLD
  have HFT := Aside0.mk hft
  clear hft
  clear f1 f2 f3 f4 HTW hz1 hz2 HC4
  generalize loadP l0 fd = s1 at HLC HLD HF2 HFT
  obtain ⟨l1, e1⟩ := s1
  refine HLC.out.mono ?_
  rintro e w5 ⟨v5, rfl, hs5, hb5⟩
  obtain ⟨A5, c5, M5, rfl, _, _, _, _⟩ := hs5.lies
  have HA5 := Aside0.mk (below_alloc (Below.refl w5.heap.size w5) (.cells #[.slice A5 l1.length c5, .map M5, .bool e1] 27))
  have HX5 := Aside0.mk (blk_new w5 (.cells #[.slice A5 l1.length c5, .map M5, .bool e1] 27))
  have HS5 := Aside0.mk (hs5.below HA5.out)
  have HB5 := Aside0.mk (Below.trans hb5 (HA5.out.mono hb5.size))
  clear hs5 hb5 HA5 HLC
  go_wp2_with fail
  refine (HLD.out _ HB5.out).mono ?_
  rintro e w6 ⟨v6, rfl, hs6, hb6⟩
  obtain ⟨A6, c6, M6, rfl, _, _, _, _⟩ := hs6.lies
  have HA6 := Aside0.mk (below_alloc (Below.refl w6.heap.size w6) (.cells #[.slice A6 l1.length c6, .map M6, .bool ft] 27))
  have HQ := Aside0.mk (Below.trans hb6 (HA6.out.mono hb6.size))
  have HY7 := Aside0.mk (blk_new w6 (.cells #[.slice A6 l1.length c6, .map M6, .bool ft] 27))
  have HT7 := Aside0.mk (show SetC (w6.alloc (.cells #[.slice A6 l1.length c6, .map M6, .bool ft] 27)) (.agg #[.slice A6 l1.length c6, .map M6, .bool ft]) ⟨l1, ft⟩ from hs6.below HA6.out)
  have HX7 := Aside0.mk (blk_below HX5.out HQ.out)
  have HS7 := Aside0.mk (HS5.out.below HQ.out)
  have HB7 := Aside0.mk (Below.trans HB1.out (Below.trans HB4.out ((Below.trans HB5.out (HQ.out.mono HB5.out.size)).mono HB4.out.size) |>.mono HB1.out.size))
  have HR7 := Aside0.mk (Kd.C_below HR4.out (Below.trans HB5.out (HQ.out.mono HB5.out.size)))
  clear hs6 hb6 HA6 HX5 HS5 HB5 HLD HR4 HB4 HQ HR1 HB1
  have k10 := (blk_cell HX7.out 0).trans (show _ = some (Value.slice A5 l1.length c5) from rfl)
  have k11 := (blk_cell HX7.out 1).trans (show _ = some (Value.map M5) from rfl)
  have k12 := (blk_cell HX7.out 2).trans (show _ = some (Value.bool e1) from rfl)
  go_wp2_with fail
  clear k10 k11 k12
  generalize w6.alloc (.cells #[.slice A6 l1.length c6, .map M6, .bool ft] 27) = w7 at HY7 HT7 HX7 HS7 HB7 HR7 ⊢
  generalize w6.heap.size = g2 at HY7 ⊢
  generalize w5.heap.size = g1 at HX7 ⊢
  refine (patterns_calls HS7.out (by have := HF2.out.1; show l1.length ≤ _; have h : l1.length ≤ 1024 := this; omega) (fun p hp => Nat.le_trans (HF2.out.2 p hp) (by decide))).mono ?_
  rintro e w8 ⟨v8, rfl, hr8, hb8⟩
  obtain ⟨A8, c8, hv8⟩ := Kd.R_slice hr8
  subst hv8
  have HP8 := Aside0.mk (Kd.R_reads' hr8)
  have HX8 := Aside0.mk (blk_below HX7.out hb8)
  have HY8 := Aside0.mk (blk_below HY7.out hb8)
  have HS8 := Aside0.mk (HS7.out.below hb8)
  have HT8 := Aside0.mk (HT7.out.below hb8)
  have HB8 := Aside0.mk (Below.trans HB7.out (hb8.mono HB7.out.size))
  have HR8 := Aside0.mk (Kd.C_below HR7.out hb8)
  clear hr8 hb8 HX7 HY7 HS7 HT7 HB7 HR7
  have k20 := (blk_cell HY8.out 0).trans (show _ = some (Value.slice A6 l1.length c6) from rfl)
  have k21 := (blk_cell HY8.out 1).trans (show _ = some (Value.map M6) from rfl)
  have k22 := (blk_cell HY8.out 2).trans (show _ = some (Value.bool ft) from rfl)
  go_wp2_with fail
  clear k20 k21 k22
  refine (patterns_calls HT8.out (by have := HF2.out.1; show l1.length ≤ _; have h : l1.length ≤ 1024 := this; omega) (fun p hp => Nat.le_trans (HF2.out.2 p hp) (by decide))).mono ?_
  rintro e w9 ⟨v9, rfl, hr9, hb9⟩
  obtain ⟨A9, c9, hv9⟩ := Kd.R_slice hr9
  subst hv9
  have HP9 := Aside0.mk (Kd.R_reads' hr9)
  have HQ9 := Aside0.mk (Kd.C_below HP8.out.2.2 hb9)
  have HX9 := Aside0.mk (blk_below HX8.out hb9)
  have HY9 := Aside0.mk (blk_below HY8.out hb9)
  have HS9 := Aside0.mk (HS8.out.below hb9)
  have HT9 := Aside0.mk (HT8.out.below hb9)
  have HB9 := Aside0.mk (Below.trans HB8.out (hb9.mono HB8.out.size))
  have HR9 := Aside0.mk (Kd.C_below HR8.out hb9)
  clear hr9 hb9 HX8 HY8 HS8 HT8 HB8 HR8
  go_wp2
  go_loopw [13] (fun v13 wr => ∃ (i : Nat), v13 = .int .i64 (i : Int) ∧ Aside0 (i ≤ l1.length) ∧ Aside0 (Below w9.heap.size w9 wr)) (fun v _ => l1.length - (intOf v).toNat)
  case atStart => exact ⟨0, rfl, ⟨Nat.zero_le _⟩, ⟨Below.refl _ _⟩⟩
  case round =>
    obtain ⟨i, rfl, HI, HBW⟩ := hrel
    by_cases hlt : i < l1.length
    · have e1' : decide ((i : Int) < (l1.length : Int)) = true := decide_eq_true (by omega)
      have e2' : decide (i < l1.length) = true := decide_eq_true hlt
      have HIL := Aside0.mk hlt
      obtain ⟨ad1, Ab1, cb1, rfl, p0, p1, p2⟩ := row_at (L := l1) (Kd.C_below HQ9.out HBW.out) i hlt
      obtain ⟨ad2, Ab2, cb2, rfl, r0, r1, r2⟩ := row_at (L := l1) (Kd.C_below HP9.out.2.2 HBW.out) i hlt
      generalize (l1[i]'hlt) = x at p0 p1 p2 r0 r1 r2
      have s0 := fun m => Kd.C_string (P := Try.prog) (A := Ab1) (c := cb1) Try.underlying22 Try.underlying5 Try.underlying9 (Kd.C_drewN p2 m)
      have s1' := fun m => Kd.C_string (P := Try.prog) (A := Ab2) (c := cb2) Try.underlying22 Try.underlying5 Try.underlying9 (Kd.C_drewN r2 m)
      have k0 : 0 ≤ (i : Int) := by omega
      have k1 : (i : Int) < (l1.length : Int) := by omega
      have hw2 : wrap64 ((i : Int) + 1) = ((i + 1 : Nat) : Int) := wr_big (by omega) (by have := HF2.out.1; have h : l1.length ≤ 1024 := this; have := HIL.out; omega)
      clear hlt p1 p2 r1 r2
      generalize strOfNums x = str at s0 s1'
      generalize x.length = m at p0 r0 s0 s1'
      go_wp2
      go_quiet (fail)
      go_wp2
      go_roundw
      case rel => exact ⟨i + 1, by first | rfl | exact congrArg (Value.int .i64) hw2, HIL, ⟨pw_below_drewN HBW.out _⟩⟩
      case measure => exact ms_step HIL.out (by first | exact hw2 | simp)
    · have e1' : decide ((i : Int) < (l1.length : Int)) = false := decide_eq_false (by omega)
      have e2' : decide (i < l1.length) = false := decide_eq_false hlt
      have HXR := Aside0.mk (blk_below HX9.out HBW.out)
      have HYR := Aside0.mk (blk_below HY9.out HBW.out)
      have HSR := Aside0.mk (HS9.out.below HBW.out)
      have HTR := Aside0.mk (HT9.out.below HBW.out)
      have HBR := Aside0.mk (Below.trans HB9.out (HBW.out.mono HB9.out.size))
      have HRR := Aside0.mk (Kd.C_below HR9.out HBW.out)
      clear hlt HX9 HY9 HS9 HT9 HB9 HR9 HBW HI HP9 HQ9 HP8
      have hft : ft = (e1 || endsF l0) := HFT.out
      rcases ends_nums l0 HLE.out with ⟨h0, hen⟩ | ⟨h0, hen⟩
      · have d1 : ((l0.length : Int) == 0) = true := beq_iff_eq.mpr (by omega)
        have d2 : (l0.length == 0) = true := beq_iff_eq.mpr h0
        rw [hen] at hft
        have hft2 : ft = true := by rw [hft]; cases e1 <;> rfl
        subst hft2
        clear hft hen h0
        cases e1 with
        | true =>
          have k10 := (blk_cell HXR.out 0).trans (show _ = some (Value.slice A5 l1.length c5) from rfl)
          have k11 := (blk_cell HXR.out 1).trans (show _ = some (Value.map M5) from rfl)
          have k12 := (blk_cell HXR.out 2).trans (show _ = some (Value.bool true) from rfl)
          have k20 := (blk_cell HYR.out 0).trans (show _ = some (Value.slice A6 l1.length c6) from rfl)
          have k21 := (blk_cell HYR.out 1).trans (show _ = some (Value.map M6) from rfl)
          have k22 := (blk_cell HYR.out 2).trans (show _ = some (Value.bool true) from rfl)
          go_wp2_with fail
          refine wp_region_held_drew (S := fun w' => w'.cell? ⟨g1, 0, none⟩ = some (Value.slice A5 l1.length c5) ∧ w'.cell? ⟨g1, 1, none⟩ = some (Value.map M5) ∧ w'.cell? ⟨g1, 2, none⟩ = some (Value.bool true) ∧ w'.cell? ⟨g2, 0, none⟩ = some (Value.slice A6 l1.length c6) ∧ w'.cell? ⟨g2, 1, none⟩ = some (Value.map M6) ∧ w'.cell? ⟨g2, 2, none⟩ = some (Value.bool true)) (by kernel_rfl) ⟨k10, k11, k12, k20, k21, k22⟩ (fun hHeld => ?_)
          refine wpAnyH_take (i := 0) (oi := { dst := some 88, op := Op.load 27 (Operand.tmp 9), type := 27, pos := "law.go:161", after := #[], guard := none }) (v := ?_) rfl (by kernel_rfl) (by kernel_rfl) (by kernel_rfl) (fun _ _ _ h => h) (Or.inl ⟨by rfl, ?_⟩) (by assumption) ?_
          rotate_left 1
          · intro w hSw
            (try dsimp only at hSw)
            go_simp
            all_goals try with_reducible rfl
          try simp only [Act.put, List.setIfInBounds_toArray, List.set_cons_zero, List.set_cons_succ]
          refine wpAnyH_take (i := 2) (oi := { dst := some 90, op := Op.load 27 (Operand.tmp 7), type := 27, pos := "law.go:161", after := #[], guard := none }) (v := ?_) rfl (by kernel_rfl) (by kernel_rfl) (by kernel_rfl) (fun _ _ _ h => h) (Or.inl ⟨by rfl, ?_⟩) (by assumption) ?_
          rotate_left 1
          · intro w hSw
            (try dsimp only at hSw)
            go_simp
            all_goals try with_reducible rfl
          try simp only [Act.put, List.setIfInBounds_toArray, List.set_cons_zero, List.set_cons_succ]
          refine wpAnyH_ready (rs := [1]) (by kernel_rfl) (by simp) ?_
          refine AllReadyH.cons (o := { dst := some 89, op := Op.call { callee := Callee.value (Operand.func 20), args := #[Operand.tmp 88], argTypes := #[27] }, type := 4, pos := "law.go:161", after := #[{ on := 0, ground := Ground.data }], guard := none }) rfl (fun K hK => ?_) AllReadyH.nil
          clear hHeld
          go_simp
          refine (empty_calls (HTR.out.below (below_drew (Below.refl wr.heap.size wr)))).mono ?_
          rintro e w10 ⟨rfl, hb⟩
          have HB10 := Aside0.mk (show Below wr.heap.size wr w10 from Below.trans ((below_drew (Below.refl wr.heap.size wr))) (hb.mono ((below_drew (Below.refl wr.heap.size wr))).size))
          clear hb k10 k11 k12 k20 k21 k22
          have k10 := (blk_cell (blk_below HXR.out HB10.out) 0).trans (show _ = some (Value.slice A5 l1.length c5) from rfl)
          have k11 := (blk_cell (blk_below HXR.out HB10.out) 1).trans (show _ = some (Value.map M5) from rfl)
          have k12 := (blk_cell (blk_below HXR.out HB10.out) 2).trans (show _ = some (Value.bool true) from rfl)
          have k20 := (blk_cell (blk_below HYR.out HB10.out) 0).trans (show _ = some (Value.slice A6 l1.length c6) from rfl)
          have k21 := (blk_cell (blk_below HYR.out HB10.out) 1).trans (show _ = some (Value.map M6) from rfl)
          have k22 := (blk_cell (blk_below HYR.out HB10.out) 2).trans (show _ = some (Value.bool true) from rfl)
          refine hK.out _ _ ⟨k10, k11, k12, k20, k21, k22⟩ (fun hHeld => ?_)
          clear hK K
          try simp only [Act.put, List.setIfInBounds_toArray, List.set_cons_zero, List.set_cons_succ]
          refine wpAnyH_ready (rs := [3]) (by kernel_rfl) (by simp) ?_
          refine AllReadyH.cons (o := { dst := some 91, op := Op.call { callee := Callee.value (Operand.func 20), args := #[Operand.tmp 90], argTypes := #[27] }, type := 4, pos := "law.go:161", after := #[{ on := 2, ground := Ground.data }, { on := 1, ground := Ground.chain }], guard := none }) rfl (fun K hK => ?_) AllReadyH.nil
          clear hHeld
          go_simp
          refine (empty_calls (HSR.out.below HB10.out)).mono ?_
          rintro e w11 ⟨rfl, hb⟩
          have HB11 := Aside0.mk (show Below wr.heap.size wr w11 from Below.trans (HB10.out) (hb.mono (HB10.out).size))
          clear hb k10 k11 k12 k20 k21 k22
          have k10 := (blk_cell (blk_below HXR.out HB11.out) 0).trans (show _ = some (Value.slice A5 l1.length c5) from rfl)
          have k11 := (blk_cell (blk_below HXR.out HB11.out) 1).trans (show _ = some (Value.map M5) from rfl)
          have k12 := (blk_cell (blk_below HXR.out HB11.out) 2).trans (show _ = some (Value.bool true) from rfl)
          have k20 := (blk_cell (blk_below HYR.out HB11.out) 0).trans (show _ = some (Value.slice A6 l1.length c6) from rfl)
          have k21 := (blk_cell (blk_below HYR.out HB11.out) 1).trans (show _ = some (Value.map M6) from rfl)
          have k22 := (blk_cell (blk_below HYR.out HB11.out) 2).trans (show _ = some (Value.bool true) from rfl)
          refine hK.out _ _ ⟨k10, k11, k12, k20, k21, k22⟩ (fun hHeld => ?_)
          clear hK K
          try simp only [Act.put, List.setIfInBounds_toArray, List.set_cons_zero, List.set_cons_succ]
          refine wpAnyH_take (i := 4) (oi := { dst := some 92, op := Op.move (Operand.tmp 91), type := 4, pos := "law.go:161", after := #[{ on := 3, ground := Ground.data }, { on := 3, ground := Ground.chain }], guard := none }) (v := ?_) rfl (by kernel_rfl) (by kernel_rfl) (by kernel_rfl) (fun _ _ _ h => h) (Or.inl ⟨by rfl, ?_⟩) (by assumption) ?_
          rotate_left 1
          · intro w hSw
            (try dsimp only at hSw)
            go_simp
            all_goals try with_reducible rfl
          try simp only [Act.put, List.setIfInBounds_toArray, List.set_cons_zero, List.set_cons_succ]
          refine wpAnyH_take (i := 5) (oi := { dst := some 93, op := Op.move (Operand.tmp 14), type := 4, pos := "law.go:161", after := #[{ on := 4, ground := Ground.guard }], guard := some (4, false) }) (v := undef) rfl (by kernel_rfl) (by kernel_rfl) (by kernel_rfl) (fun _ _ _ h => h) (Or.inr ⟨by go_simp, rfl⟩) (by assumption) ?_
          try simp only [Act.put, List.setIfInBounds_toArray, List.set_cons_zero, List.set_cons_succ]
          refine wpAnyH_take (i := 6) (oi := { dst := some 94, op := Op.pick (Operand.tmp 92) (Operand.const (Value.bool true)) (Operand.tmp 93), type := 4, pos := "law.go:161", after := #[{ on := 4, ground := Ground.data }, { on := 5, ground := Ground.data }], guard := none }) (v := ?_) rfl (by kernel_rfl) (by kernel_rfl) (by kernel_rfl) (fun _ _ _ h => h) (Or.inl ⟨by rfl, ?_⟩) (by assumption) ?_
          rotate_left 1
          · intro w hSw
            (try dsimp only at hSw)
            go_simp
            all_goals try with_reducible rfl
          try simp only [Act.put, List.setIfInBounds_toArray, List.set_cons_zero, List.set_cons_succ]
          refine wpAnyH_take (i := 7) (oi := { dst := some 95, op := Op.binOp BinOp.eql 4 (Operand.tmp 89) (Operand.tmp 94) 4, type := 4, pos := "law.go:161", after := #[{ on := 1, ground := Ground.data }, { on := 6, ground := Ground.data }], guard := none }) (v := ?_) rfl (by kernel_rfl) (by kernel_rfl) (by kernel_rfl) (fun _ _ _ h => h) (Or.inl ⟨by rfl, ?_⟩) (by assumption) ?_
          rotate_left 1
          · intro w hSw
            (try dsimp only at hSw)
            go_simp
            all_goals try with_reducible rfl
          try simp only [Act.put, List.setIfInBounds_toArray, List.set_cons_zero, List.set_cons_succ]
          refine wpAnyH_take (i := 8) (oi := { dst := some 4, op := Op.assign (Operand.tmp 95), type := 4, pos := "law.go:161", after := #[{ on := 7, ground := Ground.data }, { on := 4, ground := Ground.chain }, { on := 0, ground := Ground.phase }, { on := 1, ground := Ground.phase }, { on := 2, ground := Ground.phase }, { on := 3, ground := Ground.phase }, { on := 4, ground := Ground.phase }, { on := 5, ground := Ground.phase }, { on := 6, ground := Ground.phase }, { on := 7, ground := Ground.phase }], guard := none }) (v := ?_) rfl (by kernel_rfl) (by kernel_rfl) (by kernel_rfl) (fun _ _ _ h => h) (Or.inl ⟨by rfl, ?_⟩) (by assumption) ?_
          rotate_left 1
          · intro w hSw
            (try dsimp only at hSw)
            go_simp
            all_goals try with_reducible rfl
          try simp only [Act.put, List.setIfInBounds_toArray, List.set_cons_zero, List.set_cons_succ]
          refine wpAnyH_done (by kernel_rfl) ?_ _
          go_wp2
          go_ret
          exact ⟨rfl, Below.trans HBR.out (HB11.out.mono HBR.out.size)⟩
        | false =>
          have k10 := (blk_cell HXR.out 0).trans (show _ = some (Value.slice A5 l1.length c5) from rfl)
          have k11 := (blk_cell HXR.out 1).trans (show _ = some (Value.map M5) from rfl)
          have k12 := (blk_cell HXR.out 2).trans (show _ = some (Value.bool false) from rfl)
          have k20 := (blk_cell HYR.out 0).trans (show _ = some (Value.slice A6 l1.length c6) from rfl)
          have k21 := (blk_cell HYR.out 1).trans (show _ = some (Value.map M6) from rfl)
          have k22 := (blk_cell HYR.out 2).trans (show _ = some (Value.bool true) from rfl)
          go_wp2_with fail
          refine wp_region_held_drew (S := fun w' => w'.cell? ⟨g1, 0, none⟩ = some (Value.slice A5 l1.length c5) ∧ w'.cell? ⟨g1, 1, none⟩ = some (Value.map M5) ∧ w'.cell? ⟨g1, 2, none⟩ = some (Value.bool false) ∧ w'.cell? ⟨g2, 0, none⟩ = some (Value.slice A6 l1.length c6) ∧ w'.cell? ⟨g2, 1, none⟩ = some (Value.map M6) ∧ w'.cell? ⟨g2, 2, none⟩ = some (Value.bool true)) (by kernel_rfl) ⟨k10, k11, k12, k20, k21, k22⟩ (fun hHeld => ?_)
          refine wpAnyH_take (i := 0) (oi := { dst := some 88, op := Op.load 27 (Operand.tmp 9), type := 27, pos := "law.go:161", after := #[], guard := none }) (v := ?_) rfl (by kernel_rfl) (by kernel_rfl) (by kernel_rfl) (fun _ _ _ h => h) (Or.inl ⟨by rfl, ?_⟩) (by assumption) ?_
          rotate_left 1
          · intro w hSw
            (try dsimp only at hSw)
            go_simp
            all_goals try with_reducible rfl
          try simp only [Act.put, List.setIfInBounds_toArray, List.set_cons_zero, List.set_cons_succ]
          refine wpAnyH_take (i := 2) (oi := { dst := some 90, op := Op.load 27 (Operand.tmp 7), type := 27, pos := "law.go:161", after := #[], guard := none }) (v := ?_) rfl (by kernel_rfl) (by kernel_rfl) (by kernel_rfl) (fun _ _ _ h => h) (Or.inl ⟨by rfl, ?_⟩) (by assumption) ?_
          rotate_left 1
          · intro w hSw
            (try dsimp only at hSw)
            go_simp
            all_goals try with_reducible rfl
          try simp only [Act.put, List.setIfInBounds_toArray, List.set_cons_zero, List.set_cons_succ]
          refine wpAnyH_ready (rs := [1]) (by kernel_rfl) (by simp) ?_
          refine AllReadyH.cons (o := { dst := some 89, op := Op.call { callee := Callee.value (Operand.func 20), args := #[Operand.tmp 88], argTypes := #[27] }, type := 4, pos := "law.go:161", after := #[{ on := 0, ground := Ground.data }], guard := none }) rfl (fun K hK => ?_) AllReadyH.nil
          clear hHeld
          go_simp
          refine (empty_calls (HTR.out.below (below_drew (Below.refl wr.heap.size wr)))).mono ?_
          rintro e w10 ⟨rfl, hb⟩
          have HB10 := Aside0.mk (show Below wr.heap.size wr w10 from Below.trans ((below_drew (Below.refl wr.heap.size wr))) (hb.mono ((below_drew (Below.refl wr.heap.size wr))).size))
          clear hb k10 k11 k12 k20 k21 k22
          have k10 := (blk_cell (blk_below HXR.out HB10.out) 0).trans (show _ = some (Value.slice A5 l1.length c5) from rfl)
          have k11 := (blk_cell (blk_below HXR.out HB10.out) 1).trans (show _ = some (Value.map M5) from rfl)
          have k12 := (blk_cell (blk_below HXR.out HB10.out) 2).trans (show _ = some (Value.bool false) from rfl)
          have k20 := (blk_cell (blk_below HYR.out HB10.out) 0).trans (show _ = some (Value.slice A6 l1.length c6) from rfl)
          have k21 := (blk_cell (blk_below HYR.out HB10.out) 1).trans (show _ = some (Value.map M6) from rfl)
          have k22 := (blk_cell (blk_below HYR.out HB10.out) 2).trans (show _ = some (Value.bool true) from rfl)
          refine hK.out _ _ ⟨k10, k11, k12, k20, k21, k22⟩ (fun hHeld => ?_)
          clear hK K
          try simp only [Act.put, List.setIfInBounds_toArray, List.set_cons_zero, List.set_cons_succ]
          refine wpAnyH_ready (rs := [3]) (by kernel_rfl) (by simp) ?_
          refine AllReadyH.cons (o := { dst := some 91, op := Op.call { callee := Callee.value (Operand.func 20), args := #[Operand.tmp 90], argTypes := #[27] }, type := 4, pos := "law.go:161", after := #[{ on := 2, ground := Ground.data }, { on := 1, ground := Ground.chain }], guard := none }) rfl (fun K hK => ?_) AllReadyH.nil
          clear hHeld
          go_simp
          refine (empty_calls (HSR.out.below HB10.out)).mono ?_
          rintro e w11 ⟨rfl, hb⟩
          have HB11 := Aside0.mk (show Below wr.heap.size wr w11 from Below.trans (HB10.out) (hb.mono (HB10.out).size))
          clear hb k10 k11 k12 k20 k21 k22
          have k10 := (blk_cell (blk_below HXR.out HB11.out) 0).trans (show _ = some (Value.slice A5 l1.length c5) from rfl)
          have k11 := (blk_cell (blk_below HXR.out HB11.out) 1).trans (show _ = some (Value.map M5) from rfl)
          have k12 := (blk_cell (blk_below HXR.out HB11.out) 2).trans (show _ = some (Value.bool false) from rfl)
          have k20 := (blk_cell (blk_below HYR.out HB11.out) 0).trans (show _ = some (Value.slice A6 l1.length c6) from rfl)
          have k21 := (blk_cell (blk_below HYR.out HB11.out) 1).trans (show _ = some (Value.map M6) from rfl)
          have k22 := (blk_cell (blk_below HYR.out HB11.out) 2).trans (show _ = some (Value.bool true) from rfl)
          refine hK.out _ _ ⟨k10, k11, k12, k20, k21, k22⟩ (fun hHeld => ?_)
          clear hK K
          try simp only [Act.put, List.setIfInBounds_toArray, List.set_cons_zero, List.set_cons_succ]
          refine wpAnyH_take (i := 4) (oi := { dst := some 92, op := Op.move (Operand.tmp 91), type := 4, pos := "law.go:161", after := #[{ on := 3, ground := Ground.data }, { on := 3, ground := Ground.chain }], guard := none }) (v := ?_) rfl (by kernel_rfl) (by kernel_rfl) (by kernel_rfl) (fun _ _ _ h => h) (Or.inl ⟨by rfl, ?_⟩) (by assumption) ?_
          rotate_left 1
          · intro w hSw
            (try dsimp only at hSw)
            go_simp
            all_goals try with_reducible rfl
          try simp only [Act.put, List.setIfInBounds_toArray, List.set_cons_zero, List.set_cons_succ]
          refine wpAnyH_take (i := 5) (oi := { dst := some 93, op := Op.move (Operand.tmp 14), type := 4, pos := "law.go:161", after := #[{ on := 4, ground := Ground.guard }], guard := some (4, false) }) (v := ?_) rfl (by kernel_rfl) (by kernel_rfl) (by kernel_rfl) (fun _ _ _ h => h) (Or.inl ⟨by go_simp, ?_⟩) (by assumption) ?_
          rotate_left 1
          · intro w hSw
            (try dsimp only at hSw)
            go_simp
            all_goals try with_reducible rfl
          try simp only [Act.put, List.setIfInBounds_toArray, List.set_cons_zero, List.set_cons_succ]
          refine wpAnyH_take (i := 6) (oi := { dst := some 94, op := Op.pick (Operand.tmp 92) (Operand.const (Value.bool true)) (Operand.tmp 93), type := 4, pos := "law.go:161", after := #[{ on := 4, ground := Ground.data }, { on := 5, ground := Ground.data }], guard := none }) (v := ?_) rfl (by kernel_rfl) (by kernel_rfl) (by kernel_rfl) (fun _ _ _ h => h) (Or.inl ⟨by rfl, ?_⟩) (by assumption) ?_
          rotate_left 1
          · intro w hSw
            (try dsimp only at hSw)
            go_simp
            all_goals try with_reducible rfl
          try simp only [Act.put, List.setIfInBounds_toArray, List.set_cons_zero, List.set_cons_succ]
          refine wpAnyH_take (i := 7) (oi := { dst := some 95, op := Op.binOp BinOp.eql 4 (Operand.tmp 89) (Operand.tmp 94) 4, type := 4, pos := "law.go:161", after := #[{ on := 1, ground := Ground.data }, { on := 6, ground := Ground.data }], guard := none }) (v := ?_) rfl (by kernel_rfl) (by kernel_rfl) (by kernel_rfl) (fun _ _ _ h => h) (Or.inl ⟨by rfl, ?_⟩) (by assumption) ?_
          rotate_left 1
          · intro w hSw
            (try dsimp only at hSw)
            go_simp
            all_goals try with_reducible rfl
          try simp only [Act.put, List.setIfInBounds_toArray, List.set_cons_zero, List.set_cons_succ]
          refine wpAnyH_take (i := 8) (oi := { dst := some 4, op := Op.assign (Operand.tmp 95), type := 4, pos := "law.go:161", after := #[{ on := 7, ground := Ground.data }, { on := 4, ground := Ground.chain }, { on := 0, ground := Ground.phase }, { on := 1, ground := Ground.phase }, { on := 2, ground := Ground.phase }, { on := 3, ground := Ground.phase }, { on := 4, ground := Ground.phase }, { on := 5, ground := Ground.phase }, { on := 6, ground := Ground.phase }, { on := 7, ground := Ground.phase }], guard := none }) (v := ?_) rfl (by kernel_rfl) (by kernel_rfl) (by kernel_rfl) (fun _ _ _ h => h) (Or.inl ⟨by rfl, ?_⟩) (by assumption) ?_
          rotate_left 1
          · intro w hSw
            (try dsimp only at hSw)
            go_simp
            all_goals try with_reducible rfl
          try simp only [Act.put, List.setIfInBounds_toArray, List.set_cons_zero, List.set_cons_succ]
          refine wpAnyH_done (by kernel_rfl) ?_ _
          go_wp2
          go_ret
          exact ⟨rfl, Below.trans HBR.out (HB11.out.mono HBR.out.size)⟩
      · have d1 : ((l0.length : Int) == 0) = false := beq_eq_false_iff_ne.mpr (by omega)
        have d2 : (l0.length == 0) = false := beq_eq_false_iff_ne.mpr (by omega)
        have hwm : wrap64 ((l0.length : Int) - 1) = ((l0.length - 1 : Nat) : Int) := by have := HLE.out; unfold wrap64; omega
        obtain ⟨adb, hab, hcb⟩ := Kd.at_int HRR.out ((l0.length - 1 : Nat) : Int) (by omega) (by omega)
        rw [Int.toNat_natCast] at hcb
        generalize rd l0 ((l0.length - 1 : Nat) : Int) = cl at hcb hen
        have q1 : 0 ≤ ((l0.length - 1 : Nat) : Int) := by omega
        have q2 : ((l0.length - 1 : Nat) : Int) < (l0.length : Int) := by omega
        rw [← hen] at hft
        subst hab
        generalize l0.length - 1 = lm at hwm hcb q1 q2
        have HH0 := Aside0.mk h0
        clear hen h0
        cases e1 with
        | true =>
          have hft2 : ft = true := hft
          subst hft2
          clear hft
          have k10 := (blk_cell HXR.out 0).trans (show _ = some (Value.slice A5 l1.length c5) from rfl)
          have k11 := (blk_cell HXR.out 1).trans (show _ = some (Value.map M5) from rfl)
          have k12 := (blk_cell HXR.out 2).trans (show _ = some (Value.bool true) from rfl)
          have k20 := (blk_cell HYR.out 0).trans (show _ = some (Value.slice A6 l1.length c6) from rfl)
          have k21 := (blk_cell HYR.out 1).trans (show _ = some (Value.map M6) from rfl)
          have k22 := (blk_cell HYR.out 2).trans (show _ = some (Value.bool true) from rfl)
          go_wp2_with fail
          refine wp_region_held_drew (S := fun w' => w'.cell? ⟨g1, 0, none⟩ = some (Value.slice A5 l1.length c5) ∧ w'.cell? ⟨g1, 1, none⟩ = some (Value.map M5) ∧ w'.cell? ⟨g1, 2, none⟩ = some (Value.bool true) ∧ w'.cell? ⟨g2, 0, none⟩ = some (Value.slice A6 l1.length c6) ∧ w'.cell? ⟨g2, 1, none⟩ = some (Value.map M6) ∧ w'.cell? ⟨g2, 2, none⟩ = some (Value.bool true)) (by kernel_rfl) ⟨k10, k11, k12, k20, k21, k22⟩ (fun hHeld => ?_)
          refine wpAnyH_take (i := 0) (oi := { dst := some 88, op := Op.load 27 (Operand.tmp 9), type := 27, pos := "law.go:161", after := #[], guard := none }) (v := ?_) rfl (by kernel_rfl) (by kernel_rfl) (by kernel_rfl) (fun _ _ _ h => h) (Or.inl ⟨by rfl, ?_⟩) (by assumption) ?_
          rotate_left 1
          · intro w hSw
            (try dsimp only at hSw)
            go_simp
            all_goals try with_reducible rfl
          try simp only [Act.put, List.setIfInBounds_toArray, List.set_cons_zero, List.set_cons_succ]
          refine wpAnyH_take (i := 2) (oi := { dst := some 90, op := Op.load 27 (Operand.tmp 7), type := 27, pos := "law.go:161", after := #[], guard := none }) (v := ?_) rfl (by kernel_rfl) (by kernel_rfl) (by kernel_rfl) (fun _ _ _ h => h) (Or.inl ⟨by rfl, ?_⟩) (by assumption) ?_
          rotate_left 1
          · intro w hSw
            (try dsimp only at hSw)
            go_simp
            all_goals try with_reducible rfl
          try simp only [Act.put, List.setIfInBounds_toArray, List.set_cons_zero, List.set_cons_succ]
          refine wpAnyH_ready (rs := [1]) (by kernel_rfl) (by simp) ?_
          refine AllReadyH.cons (o := { dst := some 89, op := Op.call { callee := Callee.value (Operand.func 20), args := #[Operand.tmp 88], argTypes := #[27] }, type := 4, pos := "law.go:161", after := #[{ on := 0, ground := Ground.data }], guard := none }) rfl (fun K hK => ?_) AllReadyH.nil
          clear hHeld
          go_simp
          refine (empty_calls (HTR.out.below (below_drew (Below.refl wr.heap.size wr)))).mono ?_
          rintro e w10 ⟨rfl, hb⟩
          have HB10 := Aside0.mk (show Below wr.heap.size wr w10 from Below.trans ((below_drew (Below.refl wr.heap.size wr))) (hb.mono ((below_drew (Below.refl wr.heap.size wr))).size))
          clear hb k10 k11 k12 k20 k21 k22
          have k10 := (blk_cell (blk_below HXR.out HB10.out) 0).trans (show _ = some (Value.slice A5 l1.length c5) from rfl)
          have k11 := (blk_cell (blk_below HXR.out HB10.out) 1).trans (show _ = some (Value.map M5) from rfl)
          have k12 := (blk_cell (blk_below HXR.out HB10.out) 2).trans (show _ = some (Value.bool true) from rfl)
          have k20 := (blk_cell (blk_below HYR.out HB10.out) 0).trans (show _ = some (Value.slice A6 l1.length c6) from rfl)
          have k21 := (blk_cell (blk_below HYR.out HB10.out) 1).trans (show _ = some (Value.map M6) from rfl)
          have k22 := (blk_cell (blk_below HYR.out HB10.out) 2).trans (show _ = some (Value.bool true) from rfl)
          refine hK.out _ _ ⟨k10, k11, k12, k20, k21, k22⟩ (fun hHeld => ?_)
          clear hK K
          try simp only [Act.put, List.setIfInBounds_toArray, List.set_cons_zero, List.set_cons_succ]
          refine wpAnyH_ready (rs := [3]) (by kernel_rfl) (by simp) ?_
          refine AllReadyH.cons (o := { dst := some 91, op := Op.call { callee := Callee.value (Operand.func 20), args := #[Operand.tmp 90], argTypes := #[27] }, type := 4, pos := "law.go:161", after := #[{ on := 2, ground := Ground.data }, { on := 1, ground := Ground.chain }], guard := none }) rfl (fun K hK => ?_) AllReadyH.nil
          clear hHeld
          go_simp
          refine (empty_calls (HSR.out.below HB10.out)).mono ?_
          rintro e w11 ⟨rfl, hb⟩
          have HB11 := Aside0.mk (show Below wr.heap.size wr w11 from Below.trans (HB10.out) (hb.mono (HB10.out).size))
          clear hb k10 k11 k12 k20 k21 k22
          have k10 := (blk_cell (blk_below HXR.out HB11.out) 0).trans (show _ = some (Value.slice A5 l1.length c5) from rfl)
          have k11 := (blk_cell (blk_below HXR.out HB11.out) 1).trans (show _ = some (Value.map M5) from rfl)
          have k12 := (blk_cell (blk_below HXR.out HB11.out) 2).trans (show _ = some (Value.bool true) from rfl)
          have k20 := (blk_cell (blk_below HYR.out HB11.out) 0).trans (show _ = some (Value.slice A6 l1.length c6) from rfl)
          have k21 := (blk_cell (blk_below HYR.out HB11.out) 1).trans (show _ = some (Value.map M6) from rfl)
          have k22 := (blk_cell (blk_below HYR.out HB11.out) 2).trans (show _ = some (Value.bool true) from rfl)
          refine hK.out _ _ ⟨k10, k11, k12, k20, k21, k22⟩ (fun hHeld => ?_)
          clear hK K
          try simp only [Act.put, List.setIfInBounds_toArray, List.set_cons_zero, List.set_cons_succ]
          refine wpAnyH_take (i := 4) (oi := { dst := some 92, op := Op.move (Operand.tmp 91), type := 4, pos := "law.go:161", after := #[{ on := 3, ground := Ground.data }, { on := 3, ground := Ground.chain }], guard := none }) (v := ?_) rfl (by kernel_rfl) (by kernel_rfl) (by kernel_rfl) (fun _ _ _ h => h) (Or.inl ⟨by rfl, ?_⟩) (by assumption) ?_
          rotate_left 1
          · intro w hSw
            (try dsimp only at hSw)
            go_simp
            all_goals try with_reducible rfl
          try simp only [Act.put, List.setIfInBounds_toArray, List.set_cons_zero, List.set_cons_succ]
          refine wpAnyH_take (i := 5) (oi := { dst := some 93, op := Op.move (Operand.tmp 14), type := 4, pos := "law.go:161", after := #[{ on := 4, ground := Ground.guard }], guard := some (4, false) }) (v := undef) rfl (by kernel_rfl) (by kernel_rfl) (by kernel_rfl) (fun _ _ _ h => h) (Or.inr ⟨by go_simp, rfl⟩) (by assumption) ?_
          try simp only [Act.put, List.setIfInBounds_toArray, List.set_cons_zero, List.set_cons_succ]
          refine wpAnyH_take (i := 6) (oi := { dst := some 94, op := Op.pick (Operand.tmp 92) (Operand.const (Value.bool true)) (Operand.tmp 93), type := 4, pos := "law.go:161", after := #[{ on := 4, ground := Ground.data }, { on := 5, ground := Ground.data }], guard := none }) (v := ?_) rfl (by kernel_rfl) (by kernel_rfl) (by kernel_rfl) (fun _ _ _ h => h) (Or.inl ⟨by rfl, ?_⟩) (by assumption) ?_
          rotate_left 1
          · intro w hSw
            (try dsimp only at hSw)
            go_simp
            all_goals try with_reducible rfl
          try simp only [Act.put, List.setIfInBounds_toArray, List.set_cons_zero, List.set_cons_succ]
          refine wpAnyH_take (i := 7) (oi := { dst := some 95, op := Op.binOp BinOp.eql 4 (Operand.tmp 89) (Operand.tmp 94) 4, type := 4, pos := "law.go:161", after := #[{ on := 1, ground := Ground.data }, { on := 6, ground := Ground.data }], guard := none }) (v := ?_) rfl (by kernel_rfl) (by kernel_rfl) (by kernel_rfl) (fun _ _ _ h => h) (Or.inl ⟨by rfl, ?_⟩) (by assumption) ?_
          rotate_left 1
          · intro w hSw
            (try dsimp only at hSw)
            go_simp
            all_goals try with_reducible rfl
          try simp only [Act.put, List.setIfInBounds_toArray, List.set_cons_zero, List.set_cons_succ]
          refine wpAnyH_take (i := 8) (oi := { dst := some 4, op := Op.assign (Operand.tmp 95), type := 4, pos := "law.go:161", after := #[{ on := 7, ground := Ground.data }, { on := 4, ground := Ground.chain }, { on := 0, ground := Ground.phase }, { on := 1, ground := Ground.phase }, { on := 2, ground := Ground.phase }, { on := 3, ground := Ground.phase }, { on := 4, ground := Ground.phase }, { on := 5, ground := Ground.phase }, { on := 6, ground := Ground.phase }, { on := 7, ground := Ground.phase }], guard := none }) (v := ?_) rfl (by kernel_rfl) (by kernel_rfl) (by kernel_rfl) (fun _ _ _ h => h) (Or.inl ⟨by rfl, ?_⟩) (by assumption) ?_
          rotate_left 1
          · intro w hSw
            (try dsimp only at hSw)
            go_simp
            all_goals try with_reducible rfl
          try simp only [Act.put, List.setIfInBounds_toArray, List.set_cons_zero, List.set_cons_succ]
          refine wpAnyH_done (by kernel_rfl) ?_ _
          go_wp2
          go_ret
          exact ⟨rfl, Below.trans HBR.out (HB11.out.mono HBR.out.size)⟩
        | false =>
          have hft2 : (cl == 10) = ft := hft.symm
          clear hft
          have k10 := (blk_cell HXR.out 0).trans (show _ = some (Value.slice A5 l1.length c5) from rfl)
          have k11 := (blk_cell HXR.out 1).trans (show _ = some (Value.map M5) from rfl)
          have k12 := (blk_cell HXR.out 2).trans (show _ = some (Value.bool false) from rfl)
          have k20 := (blk_cell HYR.out 0).trans (show _ = some (Value.slice A6 l1.length c6) from rfl)
          have k21 := (blk_cell HYR.out 1).trans (show _ = some (Value.map M6) from rfl)
          have k22 := (blk_cell HYR.out 2).trans (show _ = some (Value.bool ft) from rfl)
          go_wp2_with fail
          refine wp_region_held_drew (S := fun w' => w'.cell? ⟨g1, 0, none⟩ = some (Value.slice A5 l1.length c5) ∧ w'.cell? ⟨g1, 1, none⟩ = some (Value.map M5) ∧ w'.cell? ⟨g1, 2, none⟩ = some (Value.bool false) ∧ w'.cell? ⟨g2, 0, none⟩ = some (Value.slice A6 l1.length c6) ∧ w'.cell? ⟨g2, 1, none⟩ = some (Value.map M6) ∧ w'.cell? ⟨g2, 2, none⟩ = some (Value.bool ft)) (by kernel_rfl) ⟨k10, k11, k12, k20, k21, k22⟩ (fun hHeld => ?_)
          refine wpAnyH_take (i := 0) (oi := { dst := some 88, op := Op.load 27 (Operand.tmp 9), type := 27, pos := "law.go:161", after := #[], guard := none }) (v := ?_) rfl (by kernel_rfl) (by kernel_rfl) (by kernel_rfl) (fun _ _ _ h => h) (Or.inl ⟨by rfl, ?_⟩) (by assumption) ?_
          rotate_left 1
          · intro w hSw
            (try dsimp only at hSw)
            go_simp
            all_goals try with_reducible rfl
          try simp only [Act.put, List.setIfInBounds_toArray, List.set_cons_zero, List.set_cons_succ]
          refine wpAnyH_take (i := 2) (oi := { dst := some 90, op := Op.load 27 (Operand.tmp 7), type := 27, pos := "law.go:161", after := #[], guard := none }) (v := ?_) rfl (by kernel_rfl) (by kernel_rfl) (by kernel_rfl) (fun _ _ _ h => h) (Or.inl ⟨by rfl, ?_⟩) (by assumption) ?_
          rotate_left 1
          · intro w hSw
            (try dsimp only at hSw)
            go_simp
            all_goals try with_reducible rfl
          try simp only [Act.put, List.setIfInBounds_toArray, List.set_cons_zero, List.set_cons_succ]
          refine wpAnyH_ready (rs := [1]) (by kernel_rfl) (by simp) ?_
          refine AllReadyH.cons (o := { dst := some 89, op := Op.call { callee := Callee.value (Operand.func 20), args := #[Operand.tmp 88], argTypes := #[27] }, type := 4, pos := "law.go:161", after := #[{ on := 0, ground := Ground.data }], guard := none }) rfl (fun K hK => ?_) AllReadyH.nil
          clear hHeld
          go_simp
          refine (empty_calls (HTR.out.below (below_drew (Below.refl wr.heap.size wr)))).mono ?_
          rintro e w10 ⟨rfl, hb⟩
          have HB10 := Aside0.mk (show Below wr.heap.size wr w10 from Below.trans ((below_drew (Below.refl wr.heap.size wr))) (hb.mono ((below_drew (Below.refl wr.heap.size wr))).size))
          clear hb k10 k11 k12 k20 k21 k22
          have k10 := (blk_cell (blk_below HXR.out HB10.out) 0).trans (show _ = some (Value.slice A5 l1.length c5) from rfl)
          have k11 := (blk_cell (blk_below HXR.out HB10.out) 1).trans (show _ = some (Value.map M5) from rfl)
          have k12 := (blk_cell (blk_below HXR.out HB10.out) 2).trans (show _ = some (Value.bool false) from rfl)
          have k20 := (blk_cell (blk_below HYR.out HB10.out) 0).trans (show _ = some (Value.slice A6 l1.length c6) from rfl)
          have k21 := (blk_cell (blk_below HYR.out HB10.out) 1).trans (show _ = some (Value.map M6) from rfl)
          have k22 := (blk_cell (blk_below HYR.out HB10.out) 2).trans (show _ = some (Value.bool ft) from rfl)
          refine hK.out _ _ ⟨k10, k11, k12, k20, k21, k22⟩ (fun hHeld => ?_)
          clear hK K
          try simp only [Act.put, List.setIfInBounds_toArray, List.set_cons_zero, List.set_cons_succ]
          refine wpAnyH_ready (rs := [3]) (by kernel_rfl) (by simp) ?_
          refine AllReadyH.cons (o := { dst := some 91, op := Op.call { callee := Callee.value (Operand.func 20), args := #[Operand.tmp 90], argTypes := #[27] }, type := 4, pos := "law.go:161", after := #[{ on := 2, ground := Ground.data }, { on := 1, ground := Ground.chain }], guard := none }) rfl (fun K hK => ?_) AllReadyH.nil
          clear hHeld
          go_simp
          refine (empty_calls (HSR.out.below HB10.out)).mono ?_
          rintro e w11 ⟨rfl, hb⟩
          have HB11 := Aside0.mk (show Below wr.heap.size wr w11 from Below.trans (HB10.out) (hb.mono (HB10.out).size))
          clear hb k10 k11 k12 k20 k21 k22
          have k10 := (blk_cell (blk_below HXR.out HB11.out) 0).trans (show _ = some (Value.slice A5 l1.length c5) from rfl)
          have k11 := (blk_cell (blk_below HXR.out HB11.out) 1).trans (show _ = some (Value.map M5) from rfl)
          have k12 := (blk_cell (blk_below HXR.out HB11.out) 2).trans (show _ = some (Value.bool false) from rfl)
          have k20 := (blk_cell (blk_below HYR.out HB11.out) 0).trans (show _ = some (Value.slice A6 l1.length c6) from rfl)
          have k21 := (blk_cell (blk_below HYR.out HB11.out) 1).trans (show _ = some (Value.map M6) from rfl)
          have k22 := (blk_cell (blk_below HYR.out HB11.out) 2).trans (show _ = some (Value.bool ft) from rfl)
          refine hK.out _ _ ⟨k10, k11, k12, k20, k21, k22⟩ (fun hHeld => ?_)
          clear hK K
          try simp only [Act.put, List.setIfInBounds_toArray, List.set_cons_zero, List.set_cons_succ]
          refine wpAnyH_take (i := 4) (oi := { dst := some 92, op := Op.move (Operand.tmp 91), type := 4, pos := "law.go:161", after := #[{ on := 3, ground := Ground.data }, { on := 3, ground := Ground.chain }], guard := none }) (v := ?_) rfl (by kernel_rfl) (by kernel_rfl) (by kernel_rfl) (fun _ _ _ h => h) (Or.inl ⟨by rfl, ?_⟩) (by assumption) ?_
          rotate_left 1
          · intro w hSw
            (try dsimp only at hSw)
            go_simp
            all_goals try with_reducible rfl
          try simp only [Act.put, List.setIfInBounds_toArray, List.set_cons_zero, List.set_cons_succ]
          refine wpAnyH_take (i := 5) (oi := { dst := some 93, op := Op.move (Operand.tmp 14), type := 4, pos := "law.go:161", after := #[{ on := 4, ground := Ground.guard }], guard := some (4, false) }) (v := ?_) rfl (by kernel_rfl) (by kernel_rfl) (by kernel_rfl) (fun _ _ _ h => h) (Or.inl ⟨by go_simp, ?_⟩) (by assumption) ?_
          rotate_left 1
          · intro w hSw
            (try dsimp only at hSw)
            go_simp
            all_goals try with_reducible rfl
          try simp only [Act.put, List.setIfInBounds_toArray, List.set_cons_zero, List.set_cons_succ]
          refine wpAnyH_take (i := 6) (oi := { dst := some 94, op := Op.pick (Operand.tmp 92) (Operand.const (Value.bool true)) (Operand.tmp 93), type := 4, pos := "law.go:161", after := #[{ on := 4, ground := Ground.data }, { on := 5, ground := Ground.data }], guard := none }) (v := ?_) rfl (by kernel_rfl) (by kernel_rfl) (by kernel_rfl) (fun _ _ _ h => h) (Or.inl ⟨by rfl, ?_⟩) (by assumption) ?_
          rotate_left 1
          · intro w hSw
            (try dsimp only at hSw)
            go_simp
            all_goals try with_reducible rfl
          try simp only [Act.put, List.setIfInBounds_toArray, List.set_cons_zero, List.set_cons_succ]
          refine wpAnyH_take (i := 7) (oi := { dst := some 95, op := Op.binOp BinOp.eql 4 (Operand.tmp 89) (Operand.tmp 94) 4, type := 4, pos := "law.go:161", after := #[{ on := 1, ground := Ground.data }, { on := 6, ground := Ground.data }], guard := none }) (v := ?_) rfl (by kernel_rfl) (by kernel_rfl) (by kernel_rfl) (fun _ _ _ h => h) (Or.inl ⟨by rfl, ?_⟩) (by assumption) ?_
          rotate_left 1
          · intro w hSw
            (try dsimp only at hSw)
            go_simp
            all_goals try with_reducible rfl
          try simp only [Act.put, List.setIfInBounds_toArray, List.set_cons_zero, List.set_cons_succ]
          refine wpAnyH_take (i := 8) (oi := { dst := some 4, op := Op.assign (Operand.tmp 95), type := 4, pos := "law.go:161", after := #[{ on := 7, ground := Ground.data }, { on := 4, ground := Ground.chain }, { on := 0, ground := Ground.phase }, { on := 1, ground := Ground.phase }, { on := 2, ground := Ground.phase }, { on := 3, ground := Ground.phase }, { on := 4, ground := Ground.phase }, { on := 5, ground := Ground.phase }, { on := 6, ground := Ground.phase }, { on := 7, ground := Ground.phase }], guard := none }) (v := ?_) rfl (by kernel_rfl) (by kernel_rfl) (by kernel_rfl) (fun _ _ _ h => h) (Or.inl ⟨by rfl, ?_⟩) (by assumption) ?_
          rotate_left 1
          · intro w hSw
            (try dsimp only at hSw)
            go_simp
            all_goals try with_reducible rfl
          try simp only [Act.put, List.setIfInBounds_toArray, List.set_cons_zero, List.set_cons_succ]
          refine wpAnyH_done (by kernel_rfl) ?_ _
          go_wp2
          go_ret
          exact ⟨rfl, Below.trans HBR.out (HB11.out.mono HBR.out.size)⟩
end Go.Proofs.Ytkpfnhkfecpefaa.Pat
