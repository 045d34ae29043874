/- Functions of the translation and what they come to: laid by a program of this session (xprint.py) beside contracts proved by hand. No condition. -/
import Derived.Test.YtccpobbebfgpbaaPLinesSplitx0
import Derived.Test.YtccpobbebfgpbaaPLinesSplitx1
namespace Go.Proofs.Ytccpobbebfgpbaa.PLinesSplit
open Go.RowKit Go.Proofs.YtccpobbebfgpbaaW.PrintWords Go.Proofs.YtccpobbebfgpbaaW.PrintLast Go.Proofs.YtccpobbebfgpbaaW.PrintMore
attribute [local go_sem] max2_int min2_int max_two min_two max_three min_three max_four min_four   -- for this text's walks alone
set_option linter.unusedVariables false
set_option linter.unusedSimpArgs false

theorem const_reads (w : World) (xs : List Int) (e : TypeId) (fr : Nat × Nat) (hm : xs.length ≤ 9223372036854775807) :
    Kd.C (Kd.int .u8) (w.alloc (.cells (xs.map (Value.int .u8)).toArray e fr)) (some ⟨w.heap.size, 0, none⟩) xs.length xs := by
  refine Kd.C_of_reads (d := (0 : Int)) (h1 := fun _ => rfl) ⟨rfl, hm, fun _ => ⟨_, rfl, fun j hj => ?_⟩⟩
  rw [add_plain, World.cell?_alloc_mark]
  simp [List.getD_eq_getElem?_getD, List.getElem?_eq_getElem hj]
def wa0 : List Int := [97, 10, 10, 98]
def wa1 : List Int := [97, 10]
def wa2 : List Int := [97, 10, 98]
def wa3 : List Int := [97]
def wl0 : List S31 := [⟨0, [97], true⟩, ⟨2, [], true⟩, ⟨3, [98], false⟩]
set_option maxHeartbeats 8000000 in
set_option maxRecDepth 100000 in
theorem awake_calls (w : World) :
    Calls Try.prog 9 #[] w fun e w' => e = .returned (.bool true) ∧ Below w.heap.size w w' := by
  have hu31 := Try.underlying31
  have kc := fun (w : World) (C : Array Value) (n c : Nat) => Lib.run_convert_bytes_const (P := Try.prog) w 22 5 C n c Try.underlying22 Try.underlying5
  have kc1 := kc w #[.int .u8 97, .int .u8 10, .int .u8 10, .int .u8 98] 4 4
  have HS := Aside0.mk (lines_Split.calls (some ⟨w.heap.size, 0, none⟩) 4 wa0 wl0 (w.alloc (.cells (wa0.map (Value.int .u8)).toArray 5 (4, 5))) (const_reads w wa0 5 (4, 5) (by decide)) (by decide) (by unfold lines_Split.f; rw [if_pos (by decide)]; rfl))
  have HB0 := Aside0.mk (below_alloc (Below.refl w.heap.size w) (.cells (wa0.map (Value.int .u8)).toArray 5 (4, 5)))
  go_enter Try.func9, Try.ntmps9
  go_wp2_with fail
  refine HS.out.mono ?_
  rintro e w1 ⟨v1, rfl, hs1, hb1⟩
  have hr1 := Kd.S_R hs1
  clear hs1
  obtain ⟨g, cap, rfl, _⟩ := Kd.R_form hr1 (by decide)
  obtain ⟨_, _, hC1⟩ := Kd.R_reads' hr1
  obtain ⟨ad0, A0, c0, e0, p0, p1, p2, p3, p4⟩ := at_T31 hC1 0 (by decide) (by decide)
  obtain ⟨ad1, A1, c1, e1, q0, q1, q2, q3, q4⟩ := at_T31 hC1 1 (by decide) (by decide)
  obtain ⟨ad2, A2, c2, e2, r0, r1, r2, r3, r4⟩ := at_T31 hC1 2 (by decide) (by decide)
  cases e0
  cases e1
  cases e2
  have s0 := Kd.C_string (P := Try.prog) (A := A0) (c := c0) Try.underlying22 Try.underlying5 Try.underlying9 p4
  have d0 : rd_T31 wl0 0 = ⟨0, [97], true⟩ := rfl
  have d1 : rd_T31 wl0 1 = ⟨2, [], true⟩ := rfl
  have d2 : rd_T31 wl0 2 = ⟨3, [98], false⟩ := rfl
  rw [d0] at p0 p1 p2 p3 p4 s0
  rw [d1] at q0 q1 q2 q3 q4
  rw [d2] at r0 r1 r2 r3 r4
  simp [Addr.add] at p0 p1 p2 q0 q1 q2 r0 r1 r2
  have hss : strOfNums [97] = ⟨#[97]⟩ := by decide +kernel
  rw [hss] at s0
  have s0' : (convert 22 9 (.slice A0 1 c0)).run Try.prog w1 = .ok (.string ⟨#[97]⟩) w1 := s0
  clear s0
  have HB1 := Aside0.mk (below_step HB0.out hb1)
  clear hr1 hC1 hb1 p4 q4 r4 p3 q3 r3 kc1 HS HB0
  have kc2 := kc w1 #[.int .u8 97, .int .u8 10] 2 2
  go_wp2_with fail
  refine (lines_Count.calls 20 (some ⟨w1.heap.size, 0, none⟩) 2 wa1 1 (w1.alloc (.cells (wa1.map (Value.int .u8)).toArray 5 (2, 3))) (const_reads w1 wa1 5 (2, 3) (by decide)) (by decide) (by decide +kernel)).mono ?_
  rintro e w2 ⟨rfl, hd⟩
  have HB2 := Aside0.mk (below_step (below_alloc HB1.out (.cells (wa1.map (Value.int .u8)).toArray 5 (2, 3))) hd.below)
  clear hd kc2 s0' p0 p1 p2 q0 q1 q2 r0 r1 r2
  have kc3 := kc w2 #[.int .u8 97, .int .u8 10, .int .u8 98] 3 3
  go_wp2_with fail
  refine (lines_Bare.calls 20 (some ⟨w2.heap.size, 0, none⟩) 3 wa2 2 (w2.alloc (.cells (wa2.map (Value.int .u8)).toArray 5 (3, 4))) (const_reads w2 wa2 5 (3, 4) (by decide)) (by decide) (by decide +kernel)).mono ?_
  rintro e w3 ⟨rfl, hd⟩
  have HB3 := Aside0.mk (below_step (below_alloc HB2.out (.cells (wa2.map (Value.int .u8)).toArray 5 (3, 4))) hd.below)
  clear hd kc3
  have kc4 := kc w3 #[.int .u8 97] 1 1
  have hC4 := const_reads w3 wa3 5 (1, 2) (by decide)
  have hJ : Kd.C (Kd.slice 5 (Kd.int .u8)) ((w3.alloc (.cells (wa3.map (Value.int .u8)).toArray 5 (1, 2))).alloc (.cells #[.slice (some ⟨w3.heap.size, 0, none⟩) 1 1, .slice none 0 0] 22)) (some ⟨w3.heap.size + 1, 0, none⟩) 2 [wa3, []] := by
    refine ⟨rfl, by decide, fun _ => ⟨_, rfl, fun j p hj => ?_⟩⟩
    have hb := blk_new (w3.alloc (.cells (wa3.map (Value.int .u8)).toArray 5 (1, 2))) (.cells #[.slice (some ⟨w3.heap.size, 0, none⟩) 1 1, .slice none 0 0] 22)
    rw [World.size_alloc] at hb
    have h0 := (blk_cell hb 0)
    have h1 := (blk_cell hb 1)
    match j, hj with
    | 0, hj =>
      cases hj
      exact ⟨[.slice (some ⟨w3.heap.size, 0, none⟩) 1 1], rfl, ⟨_, _, rfl, by decide, Kd.C_alloc hC4 _⟩, fun i u hu => by
        match i, hu with
        | 0, hu => cases hu; exact h0⟩
    | 1, hj =>
      cases hj
      exact ⟨[.slice none 0 0], rfl, ⟨_, _, rfl, by decide, Kd.C_nil _ _⟩, fun i u hu => by
        match i, hu with
        | 0, hu => cases hu; exact h1⟩
  have HJ := Aside0.mk (lines_Join.calls 20 (some ⟨w3.heap.size + 1, 0, none⟩) 2 [wa3, []] [97, 10, 10] _ hJ (by decide) (by decide +kernel))
  have HBJ := Aside0.mk (below_alloc (below_alloc HB3.out (.cells (wa3.map (Value.int .u8)).toArray 5 (1, 2))) (.cells #[.slice (some ⟨w3.heap.size, 0, none⟩) 1 1, .slice none 0 0] 22))
  clear hJ hC4
  go_wp2_with fail
  refine HJ.out.mono ?_
  rintro e w4 ⟨v4, rfl, hr4, hb4⟩
  obtain ⟨A4, c4, rfl, hd4, hC4⟩ := Kd.R_reads hr4
  have hcv := Kd.C_string (P := Try.prog) (A := A4) (c := c4) Try.underlying22 Try.underlying5 Try.underlying9 hC4
  have hss : strOfNums [97, 10, 10] = ⟨#[97, 10, 10]⟩ := by decide +kernel
  rw [hss] at hcv
  have hcv' : (convert 22 9 (.slice A4 3 c4)).run Try.prog w4 = .ok (.string ⟨#[97, 10, 10]⟩) w4 := hcv
  have HB4 := Aside0.mk (below_step HBJ.out hb4)
  clear hcv hss hr4 hb4 hC4 hd4 kc4 HJ HBJ
  go_wp2
  go_ret
  exact ⟨rfl, HB4.out⟩
def seinelaw02_awake.f : Option Bool := some true
theorem seinelaw02_awake.calls (r : Bool) (w : World) (h : seinelaw02_awake.f = some r) :
    Calls Try.prog 9 #[] w fun e w' => e = .returned (.bool r) ∧ Below w.heap.size w w' := by
  obtain rfl := Option.some.inj h
  exact awake_calls w

/-! ### seineref02_Split: function 11 -/
def seineref02_Split.l0 : Nat → ByteArray → List (S33) → Int → Int → Option ((List (S33)))
  | 0, _, _, _, _ => none
  | k + 1, x0, x3, x4, x5 => if x5 < (x0.size : Int) then (if 0 ≤ x5 then (if (bt x0 x5) = 10 then (if 0 ≤ x4 then (if x4 ≤ x5 then (if x5 ≤ (x0.size : Int) then (if x3.length < 4398046511104 then (seineref02_Split.l0 k x0 (x3 ++ [(⟨x4, x0.extract (x4 : Int).toNat (x5 : Int).toNat, true⟩ : S33)]) (wrap64 (x5 + 1)) (wrap64 (x5 + 1))) else (none)) else (none)) else (none)) else (none)) else (seineref02_Split.l0 k x0 x3 x4 (wrap64 (x5 + 1)))) else (none)) else (if x4 < (x0.size : Int) then (if 0 ≤ x4 then (if x4 ≤ (x0.size : Int) then (if x3.length < 4398046511104 then (some (x3 ++ [(⟨x4, x0.extract (x4 : Int).toNat x0.size, false⟩ : S33)])) else (none)) else (none)) else (none)) else (some x3))
def seineref02_Split.f (k : Nat) (a0 : ByteArray) : Option ((List (S33))) := seineref02_Split.l0 k a0 ([] : List (S33)) 0 0
theorem seineref02_Split.mono_l : ∀ k, (∀ y0 y1 y2 y3, LeO (seineref02_Split.l0 k y0 y1 y2 y3) (seineref02_Split.l0 (k + 1) y0 y1 y2 y3))
  | 0 => fun _ _ _ _ r h => by simp [seineref02_Split.l0] at h
  | k + 1 => by
    have ih0 := seineref02_Split.mono_l k
    · intro y0 y1 y2 y3
      unfold seineref02_Split.l0
      repeat' first
      | (with_reducible exact ih0 _ _ _ _)
      | (with_reducible exact LeO.refl _)
      | (with_reducible exact LeO.none _)
      | (with_reducible refine LeO.ite ?_ ?_)
      | (with_reducible refine LeO.bind ?_ (fun _ => ?_))
      | exact ih0 _ _ _ _
      | exact LeO.none _
      | refine LeO.ite ?_ ?_
      | refine LeO.bind ?_ (fun _ => ?_)
theorem seineref02_Split.mono : ∀ a0 k, LeO (seineref02_Split.f k a0) (seineref02_Split.f (k + 1) a0) := by
  intro a0 k
  have ih0 := seineref02_Split.mono_l k
  unfold seineref02_Split.f
  repeat' first
      | (with_reducible exact ih0 _ _ _ _)
      | (with_reducible exact LeO.refl _)
      | (with_reducible exact LeO.none _)
      | (with_reducible refine LeO.ite ?_ ?_)
      | (with_reducible refine LeO.bind ?_ (fun _ => ?_))
      | exact ih0 _ _ _ _
      | exact LeO.none _
      | refine LeO.ite ?_ ?_
      | refine LeO.bind ?_ (fun _ => ?_)
set_option maxHeartbeats 8000000 in
set_option maxRecDepth 100000 in
theorem seineref02_Split.calls (k : Nat) (a0 : ByteArray) (r : List (S33)) (w : World) (h : seineref02_Split.f k a0 = some r) :
    Calls Try.prog 11 #[.string a0] w fun e w' => ∃ v0_ : Value, e = .returned (v0_) ∧ Kd.R k33 33 w' w.heap.size (fun _ => True) v0_ r ∧ Below w.heap.size w w' := by
  have hu33 := Try.underlying33
  have HB := Aside0.mk (Below.refl w.heap.size w)
  have H : (seineref02_Split.l0 k a0 ([] : List (S33)) 0 0) = some r := h
  clear h
  have H' := Aside0.mk H
  clear H
  go_enter Try.func11, Try.ntmps11
  go_wp2
  go_loopg [3, 4, 5] k (fun kq v3 v4 v5 w' => ∃ (x3_1 : List (S33)) (x4_1 : Int) (x5_1 : Int), v4 = .int .i64 x4_1 ∧ v5 = .int .i64 x5_1 ∧ Aside0 (seineref02_Split.l0 kq a0 x3_1 x4_1 x5_1 = some r) ∧ Aside0 (kq ≤ k) ∧ Aside0 (Kd.R k33 33 w' w.heap.size (fun _ => True) v3 x3_1) ∧ Aside0 (Below w.heap.size w w'))
  case atStart => exact ⟨(([] : List (S33))), (0), (0), (by first | rfl | (simp; done) | (simp [*]; done) | (simp; exact (by intro a b; cases a <;> cases b <;> rfl : ∀ a b : Bool, (a == b) = (!(a != b))) _ _)), (by first | rfl | (simp; done) | (simp [*]; done) | (simp; exact (by intro a b; cases a <;> cases b <;> rfl : ∀ a b : Bool, (a == b) = (!(a != b))) _ _)), H', ⟨Nat.le_refl _⟩, ⟨by first | exact Kd.R_nil _ _ _ _ _ | exact Kd.N_nil _ _ _ _ _ | exact Kd.V_nil _ _ _ _ _ | exact Kd.Q_nil _ _ _ _ _ | exact Kd.S_nil _ _ _ _ _⟩, ⟨by repeat (first | (with_reducible first | exact HB.out | apply below_alloc | apply pw_below_drewN | apply below_drew1) | exact HB.out)⟩⟩
  case round =>
    clear H'
    try clear c1
    obtain ⟨x3_1, x4_1, x5_1, rfl, rfl, HA, HK1, HO_3, HB⟩ := hrel
    cases gk with
    | zero => exact absurd HA.out (by simp [seineref02_Split.l0])
    | succ k1 =>
      have H := HA.out
      clear HA
      simp only [seineref02_Split.l0] at H
      by_cases c2 : x5_1 < (a0.size : Int)
      · rw [if_pos c2] at H
        have c2b0 : decide (x5_1 < (a0.size : Int)) = true := decide_eq_true c2
        clear c2
        by_cases c3 : 0 ≤ x5_1
        · rw [if_pos c3] at H
          have c3b0 : decide (0 ≤ x5_1) = true := decide_eq_true c3
          clear c3
          by_cases c5 : (bt a0 x5_1) = 10
          · rw [if_pos c5] at H
            have c5b0 : ((bt a0 x5_1) == 10) = true := beq_iff_eq.mpr c5
            have c5b1 : ((bt a0 x5_1) != 10) = false := bne_eq_false_iff_eq.mpr c5
            clear c5
            by_cases c6 : 0 ≤ x4_1
            · rw [if_pos c6] at H
              have c6b0 := eq_true c6
              have c6b1 : decide (0 ≤ x4_1) = true := decide_eq_true c6
              clear c6
              by_cases c7 : x4_1 ≤ x5_1
              · rw [if_pos c7] at H
                have c7b0 := eq_true c7
                have c7b1 : decide (x4_1 ≤ x5_1) = true := decide_eq_true c7
                clear c7
                by_cases c8 : x5_1 ≤ (a0.size : Int)
                · rw [if_pos c8] at H
                  have c8b0 := eq_true c8
                  have c8b1 : decide (x5_1 ≤ (a0.size : Int)) = true := decide_eq_true c8
                  clear c8
                  by_cases c9 : x3_1.length < 4398046511104
                  · rw [if_pos c9] at H
                    have LMc9 := Aside0.mk c9
                    clear c9
                    obtain ⟨y112, hy112⟩ : ∃ y_ : List (S33), y_ = (x3_1 ++ [(⟨x4_1, a0.extract (x4_1 : Int).toNat (x5_1 : Int).toNat, true⟩ : S33)]) := ⟨_, rfl⟩
                    replace H : (seineref02_Split.l0 k1 a0 y112 (wrap64 (x5_1 + 1)) (wrap64 (x5_1 + 1))) = some r := by first | (rw [hy112]; with_reducible exact H) | (have H2_ := (Option.bind_some _ _).symm.trans H; rw [hy112]; with_reducible exact H2_) | (have H2_ := (Option.bind_some _ _).symm.trans H; with_reducible exact H2_) | with_reducible exact H | (rw [hy112]; exact H) | exact H
                    have Ny112 := Aside0.mk hy112
                    clear hy112
                    have H' := Aside0.mk H
                    clear H
                    have p4 : 0 ≤ (x5_1 : Int) := of_decide_eq_true (by first | (with_reducible assumption) | assumption)
                    have q4 : x5_1 < (a0.size : Int) := of_decide_eq_true (by first | (with_reducible assumption) | assumption)
                    have hx4 := bt_at a0 x5_1
                    replace p4 := eq_true p4
                    replace q4 := eq_true q4
                    go_wp2_with (first | ((with_reducible refine gate_builtin (b := .append) (xs := #[.tmp 16, .tmp 23]) rfl ?_); at_builtin; refine Kd.R_append k33 (w0 := w) w.heap.size rfl (.tmp 16) (.tmp 23) 26 33 (.agg #[(.int .i64 0), (.string ⟨#[]⟩), (.bool false)]) 32 rfl Try.underlying26 info33 rfl (by decide) (by omega) u3 x3_1 (⟨x4_1, a0.extract (x4_1 : Int).toNat (x5_1 : Int).toNat, true⟩ : S33) [.int .i64 x4_1, .string (a0.extract (x4_1 : Int).toNat (x5_1 : Int).toNat), .bool true] (fun _ => True) (fun _ => False) rfl rfl ?aP (fun _ hk => hk.elim) ?aF ?aO ?aB ?aS ?aL ?_; (case aP => exact k33_mkM _ _ _ (⟨x4_1, a0.extract (x4_1 : Int).toNat (x5_1 : Int).toNat, true⟩ : S33)); (case aB => exact (by repeat (first | (with_reducible first | exact HB.out | apply below_alloc | apply pw_below_drewN | apply below_drew1) | exact HB.out))); (case aF => exact (fun _ _ => trivial)); (case aO => exact (by (with_reducible repeat (first | apply Kd.R_alloc | apply Kd.R_drewN | apply Kd.R_drew)); exact HO_3.out)); (case aS => exact (below_size (by repeat (first | (with_reducible first | exact HB.out | apply below_alloc | apply pw_below_drewN | apply below_drew1) | exact HB.out)))); (case aL => have := LMc9.out; omega); intro v113 w10 ho hb hg hat; rw [← Ny112.out] at ho; have n0_ := Aside0.mk (hb); have n1_ := Aside0.mk (ho); clear HB; clear HO_3; have HB := n0_; have HO114 := n1_; clear n0_ n1_; clear ho hb hg hat))
                    go_roundg k1
                    case measure => have := HK1.out; omega
                    case rel => exact ⟨(y112), (wrap64 (x5_1 + 1)), (wrap64 (x5_1 + 1)), (by first | rfl | (simp; done) | (simp [*]; done) | (simp; exact (by intro a b; cases a <;> cases b <;> rfl : ∀ a b : Bool, (a == b) = (!(a != b))) _ _)), (by first | rfl | (simp; done) | (simp [*]; done) | (simp; exact (by intro a b; cases a <;> cases b <;> rfl : ∀ a b : Bool, (a == b) = (!(a != b))) _ _)), H', ⟨by have := HK1.out; omega⟩, ⟨by (with_reducible repeat (first | apply Kd.R_alloc | apply Kd.R_drewN | apply Kd.R_drew)); exact HO114.out⟩, ⟨by repeat (first | (with_reducible first | exact HB.out | apply below_alloc | apply pw_below_drewN | apply below_drew1) | exact HB.out)⟩⟩
                  · rw [if_neg c9] at H
                    exact absurd H (by simp)
                · rw [if_neg c8] at H
                  exact absurd H (by simp)
              · rw [if_neg c7] at H
                exact absurd H (by simp)
            · rw [if_neg c6] at H
              exact absurd H (by simp)
          · rw [if_neg c5] at H
            have c5b0 : ((bt a0 x5_1) == 10) = false := beq_eq_false_iff_ne.mpr c5
            have c5b1 : ((bt a0 x5_1) != 10) = true := bne_iff_ne.mpr c5
            have H' := Aside0.mk H
            clear H
            have p4 : 0 ≤ (x5_1 : Int) := of_decide_eq_true (by first | (with_reducible assumption) | assumption)
            have q4 : x5_1 < (a0.size : Int) := of_decide_eq_true (by first | (with_reducible assumption) | assumption)
            have hx4 := bt_at a0 x5_1
            replace p4 := eq_true p4
            replace q4 := eq_true q4
            go_wp2
            go_roundg k1
            case measure => have := HK1.out; omega
            case rel => exact ⟨(x3_1), (x4_1), (wrap64 (x5_1 + 1)), (by first | rfl | (simp; done) | (simp [*]; done) | (simp; exact (by intro a b; cases a <;> cases b <;> rfl : ∀ a b : Bool, (a == b) = (!(a != b))) _ _)), (by first | rfl | (simp; done) | (simp [*]; done) | (simp; exact (by intro a b; cases a <;> cases b <;> rfl : ∀ a b : Bool, (a == b) = (!(a != b))) _ _)), H', ⟨by have := HK1.out; omega⟩, ⟨by (with_reducible repeat (first | apply Kd.R_alloc | apply Kd.R_drewN | apply Kd.R_drew)); exact HO_3.out⟩, ⟨by repeat (first | (with_reducible first | exact HB.out | apply below_alloc | apply pw_below_drewN | apply below_drew1) | exact HB.out)⟩⟩
        · rw [if_neg c3] at H
          exact absurd H (by simp)
      · rw [if_neg c2] at H
        have c2b0 : decide (x5_1 < (a0.size : Int)) = false := decide_eq_false c2
        clear c2
        by_cases c11 : x4_1 < (a0.size : Int)
        · rw [if_pos c11] at H
          have c11b0 : decide (x4_1 < (a0.size : Int)) = true := decide_eq_true c11
          clear c11
          by_cases c12 : 0 ≤ x4_1
          · rw [if_pos c12] at H
            have c12b0 := eq_true c12
            have c12b1 : decide (0 ≤ x4_1) = true := decide_eq_true c12
            clear c12
            by_cases c13 : x4_1 ≤ (a0.size : Int)
            · rw [if_pos c13] at H
              have c13b0 := eq_true c13
              have c13b1 : decide (x4_1 ≤ (a0.size : Int)) = true := decide_eq_true c13
              clear c13
              by_cases c14 : x3_1.length < 4398046511104
              · rw [if_pos c14] at H
                have LMc14 := Aside0.mk c14
                clear c14
                obtain ⟨y115, hy115⟩ : ∃ y_ : List (S33), y_ = (x3_1 ++ [(⟨x4_1, a0.extract (x4_1 : Int).toNat a0.size, false⟩ : S33)]) := ⟨_, rfl⟩
                replace H : (some y115) = some r := by first | (rw [hy115]; with_reducible exact H) | (have H2_ := (Option.bind_some _ _).symm.trans H; rw [hy115]; with_reducible exact H2_) | (have H2_ := (Option.bind_some _ _).symm.trans H; with_reducible exact H2_) | with_reducible exact H | (rw [hy115]; exact H) | exact H
                have Ny115 := Aside0.mk hy115
                clear hy115
                obtain rfl := Option.some.inj H
                go_wp2_with (first | ((with_reducible refine gate_builtin (b := .append) (xs := #[.tmp 31, .tmp 37]) rfl ?_); at_builtin; refine Kd.R_append k33 (w0 := w) w.heap.size rfl (.tmp 31) (.tmp 37) 26 33 (.agg #[(.int .i64 0), (.string ⟨#[]⟩), (.bool false)]) 32 rfl Try.underlying26 info33 rfl (by decide) (by omega) u3 x3_1 (⟨x4_1, a0.extract (x4_1 : Int).toNat a0.size, false⟩ : S33) [.int .i64 x4_1, .string (a0.extract (x4_1 : Int).toNat a0.size), .bool false] (fun _ => True) (fun _ => False) rfl rfl ?aP (fun _ hk => hk.elim) ?aF ?aO ?aB ?aS ?aL ?_; (case aP => exact k33_mkM _ _ _ (⟨x4_1, a0.extract (x4_1 : Int).toNat a0.size, false⟩ : S33)); (case aB => exact (by repeat (first | (with_reducible first | exact HB.out | apply below_alloc | apply pw_below_drewN | apply below_drew1) | exact HB.out))); (case aF => exact (fun _ _ => trivial)); (case aO => exact (by (with_reducible repeat (first | apply Kd.R_alloc | apply Kd.R_drewN | apply Kd.R_drew)); exact HO_3.out)); (case aS => exact (below_size (by repeat (first | (with_reducible first | exact HB.out | apply below_alloc | apply pw_below_drewN | apply below_drew1) | exact HB.out)))); (case aL => have := LMc14.out; omega); intro v116 w15 ho hb hg hat; rw [← Ny115.out] at ho; have n0_ := Aside0.mk (hb); have n1_ := Aside0.mk (ho); clear HB; clear HO_3; have HB := n0_; have HO117 := n1_; clear n0_ n1_; clear ho hb hg hat))
                go_ret
                exact ⟨_, by first | rfl | (simp [errW_none, errW_some] <;> rfl) | (simp [*, errW_none, errW_some] <;> rfl), by (with_reducible repeat (first | apply Kd.R_alloc | apply Kd.R_drewN | apply Kd.R_drew)); exact HO117.out, by repeat (first | (with_reducible first | exact HB.out | apply below_alloc | apply pw_below_drewN | apply below_drew1) | exact HB.out)⟩
              · rw [if_neg c14] at H
                exact absurd H (by simp)
            · rw [if_neg c13] at H
              exact absurd H (by simp)
          · rw [if_neg c12] at H
            exact absurd H (by simp)
        · rw [if_neg c11] at H
          have c11b0 : decide (x4_1 < (a0.size : Int)) = false := decide_eq_false c11
          clear c11
          obtain rfl := Option.some.inj H
          go_wp2
          go_ret
          exact ⟨_, by first | rfl | (simp [errW_none, errW_some] <;> rfl) | (simp [*, errW_none, errW_some] <;> rfl), by (with_reducible repeat (first | apply Kd.R_alloc | apply Kd.R_drewN | apply Kd.R_drew)); exact HO_3.out, by repeat (first | (with_reducible first | exact HB.out | apply below_alloc | apply pw_below_drewN | apply below_drew1) | exact HB.out)⟩

/-! ### seineref02_Bare: function 14 -/
def seineref02_Bare.l0 : Nat → ByteArray → Int → Int → Option (Int)
  | 0, _, _, _ => none
  | k + 1, x0, x3, x4 => if x4 < (x0.size : Int) then (if 0 ≤ x4 then (if (bt x0 x4) = 10 then (seineref02_Bare.l0 k x0 x3 (wrap64 (x4 + 1))) else (seineref02_Bare.l0 k x0 (wrap64 (x3 + 1)) (wrap64 (x4 + 1)))) else (none)) else (some x3)
def seineref02_Bare.f (k : Nat) (a0 : ByteArray) : Option (Int) := seineref02_Bare.l0 k a0 0 0
theorem seineref02_Bare.mono_l : ∀ k, (∀ y0 y1 y2, LeO (seineref02_Bare.l0 k y0 y1 y2) (seineref02_Bare.l0 (k + 1) y0 y1 y2))
  | 0 => fun _ _ _ r h => by simp [seineref02_Bare.l0] at h
  | k + 1 => by
    have ih0 := seineref02_Bare.mono_l k
    · intro y0 y1 y2
      unfold seineref02_Bare.l0
      repeat' first
      | (with_reducible exact ih0 _ _ _)
      | (with_reducible exact LeO.refl _)
      | (with_reducible exact LeO.none _)
      | (with_reducible refine LeO.ite ?_ ?_)
      | (with_reducible refine LeO.bind ?_ (fun _ => ?_))
      | exact ih0 _ _ _
      | exact LeO.none _
      | refine LeO.ite ?_ ?_
      | refine LeO.bind ?_ (fun _ => ?_)
theorem seineref02_Bare.mono : ∀ a0 k, LeO (seineref02_Bare.f k a0) (seineref02_Bare.f (k + 1) a0) := by
  intro a0 k
  have ih0 := seineref02_Bare.mono_l k
  unfold seineref02_Bare.f
  repeat' first
      | (with_reducible exact ih0 _ _ _)
      | (with_reducible exact LeO.refl _)
      | (with_reducible exact LeO.none _)
      | (with_reducible refine LeO.ite ?_ ?_)
      | (with_reducible refine LeO.bind ?_ (fun _ => ?_))
      | exact ih0 _ _ _
      | exact LeO.none _
      | refine LeO.ite ?_ ?_
      | refine LeO.bind ?_ (fun _ => ?_)
set_option maxHeartbeats 8000000 in
set_option maxRecDepth 100000 in
theorem seineref02_Bare.calls (k : Nat) (a0 : ByteArray) (r : Int) (w : World) (h : seineref02_Bare.f k a0 = some r) :
    Calls Try.prog 14 #[.string a0] w fun e w' => e = .returned (.int .i64 r) ∧ Drawn0 w w' := by
  have H : (seineref02_Bare.l0 k a0 0 0) = some r := h
  clear h
  have H' := Aside0.mk H
  clear H
  go_enter Try.func14, Try.ntmps14
  go_wp2
  go_loopg [3, 4] k (fun kq v3 v4 w' => ∃ (x3_1 : Int) (x4_1 : Int), v3 = .int .i64 x3_1 ∧ v4 = .int .i64 x4_1 ∧ Aside0 (seineref02_Bare.l0 kq a0 x3_1 x4_1 = some r) ∧ Aside0 (kq ≤ k) ∧ Drawn0 w w')
  case atStart => exact ⟨(0), (0), (by first | rfl | (simp; done) | (simp [*]; done) | (simp; exact (by intro a b; cases a <;> cases b <;> rfl : ∀ a b : Bool, (a == b) = (!(a != b))) _ _)), (by first | rfl | (simp; done) | (simp [*]; done) | (simp; exact (by intro a b; cases a <;> cases b <;> rfl : ∀ a b : Bool, (a == b) = (!(a != b))) _ _)), H', ⟨Nat.le_refl _⟩, by repeat (first | exact Drawn0.refl _ | apply Drawn0.step)⟩
  case round =>
    clear H'
    try clear c1
    obtain ⟨x3_1, x4_1, rfl, rfl, HA, HK1, ⟨m1, rfl⟩⟩ := hrel
    cases gk with
    | zero => exact absurd HA.out (by simp [seineref02_Bare.l0])
    | succ k1 =>
      have H := HA.out
      clear HA
      simp only [seineref02_Bare.l0] at H
      by_cases c2 : x4_1 < (a0.size : Int)
      · rw [if_pos c2] at H
        have c2b0 : decide (x4_1 < (a0.size : Int)) = true := decide_eq_true c2
        clear c2
        by_cases c3 : 0 ≤ x4_1
        · rw [if_pos c3] at H
          have c3b0 : decide (0 ≤ x4_1) = true := decide_eq_true c3
          clear c3
          by_cases c5 : (bt a0 x4_1) = 10
          · rw [if_pos c5] at H
            have c5b0 : ((bt a0 x4_1) == 10) = true := beq_iff_eq.mpr c5
            have c5b1 : ((bt a0 x4_1) != 10) = false := bne_eq_false_iff_eq.mpr c5
            clear c5
            have H' := Aside0.mk H
            clear H
            have p4 : 0 ≤ (x4_1 : Int) := of_decide_eq_true (by first | (with_reducible assumption) | assumption)
            have q4 : x4_1 < (a0.size : Int) := of_decide_eq_true (by first | (with_reducible assumption) | assumption)
            have hx4 := bt_at a0 x4_1
            replace p4 := eq_true p4
            replace q4 := eq_true q4
            go_wp2
            go_roundg k1
            case measure => have := HK1.out; omega
            case rel => exact ⟨(x3_1), (wrap64 (x4_1 + 1)), (by first | rfl | (simp; done) | (simp [*]; done) | (simp; exact (by intro a b; cases a <;> cases b <;> rfl : ∀ a b : Bool, (a == b) = (!(a != b))) _ _)), (by first | rfl | (simp; done) | (simp [*]; done) | (simp; exact (by intro a b; cases a <;> cases b <;> rfl : ∀ a b : Bool, (a == b) = (!(a != b))) _ _)), H', ⟨by have := HK1.out; omega⟩, by repeat (first | exact Drawn0.refl _ | apply Drawn0.step)⟩
          · rw [if_neg c5] at H
            have c5b0 : ((bt a0 x4_1) == 10) = false := beq_eq_false_iff_ne.mpr c5
            have c5b1 : ((bt a0 x4_1) != 10) = true := bne_iff_ne.mpr c5
            have H' := Aside0.mk H
            clear H
            have p4 : 0 ≤ (x4_1 : Int) := of_decide_eq_true (by first | (with_reducible assumption) | assumption)
            have q4 : x4_1 < (a0.size : Int) := of_decide_eq_true (by first | (with_reducible assumption) | assumption)
            have hx4 := bt_at a0 x4_1
            replace p4 := eq_true p4
            replace q4 := eq_true q4
            go_wp2
            go_roundg k1
            case measure => have := HK1.out; omega
            case rel => exact ⟨(wrap64 (x3_1 + 1)), (wrap64 (x4_1 + 1)), (by first | rfl | (simp; done) | (simp [*]; done) | (simp; exact (by intro a b; cases a <;> cases b <;> rfl : ∀ a b : Bool, (a == b) = (!(a != b))) _ _)), (by first | rfl | (simp; done) | (simp [*]; done) | (simp; exact (by intro a b; cases a <;> cases b <;> rfl : ∀ a b : Bool, (a == b) = (!(a != b))) _ _)), H', ⟨by have := HK1.out; omega⟩, by repeat (first | exact Drawn0.refl _ | apply Drawn0.step)⟩
        · rw [if_neg c3] at H
          exact absurd H (by simp)
      · rw [if_neg c2] at H
        have c2b0 : decide (x4_1 < (a0.size : Int)) = false := decide_eq_false c2
        clear c2
        obtain rfl := Option.some.inj H
        go_wp2
        go_ret
        exact ⟨by first | rfl | (simp; done) | (simp [*]; done) | (simp; exact (by intro a b; cases a <;> cases b <;> rfl : ∀ a b : Bool, (a == b) = (!(a != b))) _ _), by repeat (first | exact Drawn0.refl _ | apply Drawn0.step)⟩

/-! ### seinelaw02_LinesSplit: function 3 -/
mutual
def seinelaw02_LinesSplit.j0 : Nat → List (S31) → List (S33) → Bool → Option (Bool)
  | 0, _, _, _ => none
  | k + 1, x4, x5, x37 => if x37 = true then (none) else (seinelaw02_LinesSplit.l0 k x4 x5 0)
def seinelaw02_LinesSplit.l0 : Nat → List (S31) → List (S33) → Int → Option (Bool)
  | 0, _, _, _ => none
  | k + 1, x4, x5, x6 => if x6 < (x4.length : Int) then (if 0 ≤ x6 then (if x6 < (x5.length : Int) then (if ((rd_T31 x4 x6).f0) = ((rd_T33 x5 x6).f0) then (if (strOfNums ((rd_T31 x4 x6).f1)).toList = ((rd_T33 x5 x6).f1).toList then (if (((rd_T31 x4 x6).f2) != ((rd_T33 x5 x6).f2)) = true then (none) else (seinelaw02_LinesSplit.l0 k x4 x5 (wrap64 (x6 + 1)))) else (none)) else (none)) else (none)) else (none)) else (some true)
end
def seinelaw02_LinesSplit.f (k : Nat) (l0 : List Int) : Option (Bool) := (seinelaw02_awake.f).bind fun t118 => (if t118 = true then (if (l0.length : Int) > 1000 then (some true) else ((lines_Split.f l0).bind fun t119 => ((seineref02_Split.f k (strOfNums l0)).bind fun t122 => (if (t119.length : Int) = (t122.length : Int) then ((lines_Count.f k l0).bind fun t125 => (if t125 = (t122.length : Int) then ((lines_Bare.f k l0).bind fun t126 => ((seineref02_Bare.f k (strOfNums l0)).bind fun t127 => (seinelaw02_LinesSplit.j0 k t119 t122 (t126 != t127)))) else (seinelaw02_LinesSplit.j0 k t119 t122 true))) else (seinelaw02_LinesSplit.j0 k t119 t122 true))))) else (none))
theorem seinelaw02_LinesSplit.mono_l : ∀ k, (∀ y0 y1 y2, LeO (seinelaw02_LinesSplit.j0 k y0 y1 y2) (seinelaw02_LinesSplit.j0 (k + 1) y0 y1 y2)) ∧ (∀ y0 y1 y2, LeO (seinelaw02_LinesSplit.l0 k y0 y1 y2) (seinelaw02_LinesSplit.l0 (k + 1) y0 y1 y2))
  | 0 => ⟨fun _ _ _ r h => by simp [seinelaw02_LinesSplit.j0] at h, fun _ _ _ r h => by simp [seinelaw02_LinesSplit.l0] at h⟩
  | k + 1 => by
    obtain ⟨ih0, ih1⟩ := seinelaw02_LinesSplit.mono_l k
    refine ⟨?_, ?_⟩
    · intro y0 y1 y2
      unfold seinelaw02_LinesSplit.j0
      repeat' first
      | (with_reducible exact ih0 _ _ _)
      | (with_reducible exact ih1 _ _ _)
      | (with_reducible exact lines_Bare.mono _ _)
      | (with_reducible exact lines_Count.mono _ _)
      | (with_reducible exact seineref02_Bare.mono _ _)
      | (with_reducible exact seineref02_Split.mono _ _)
      | (with_reducible exact LeO.refl _)
      | (with_reducible exact LeO.none _)
      | (with_reducible refine LeO.ite ?_ ?_)
      | (with_reducible refine LeO.bind ?_ (fun _ => ?_))
      | exact ih0 _ _ _
      | exact ih1 _ _ _
      | exact lines_Bare.mono _ _
      | exact lines_Count.mono _ _
      | exact seineref02_Bare.mono _ _
      | exact seineref02_Split.mono _ _
      | exact LeO.none _
      | refine LeO.ite ?_ ?_
      | refine LeO.bind ?_ (fun _ => ?_)
    · intro y0 y1 y2
      unfold seinelaw02_LinesSplit.l0
      repeat' first
      | (with_reducible exact ih0 _ _ _)
      | (with_reducible exact ih1 _ _ _)
      | (with_reducible exact lines_Bare.mono _ _)
      | (with_reducible exact lines_Count.mono _ _)
      | (with_reducible exact seineref02_Bare.mono _ _)
      | (with_reducible exact seineref02_Split.mono _ _)
      | (with_reducible exact LeO.refl _)
      | (with_reducible exact LeO.none _)
      | (with_reducible refine LeO.ite ?_ ?_)
      | (with_reducible refine LeO.bind ?_ (fun _ => ?_))
      | exact ih0 _ _ _
      | exact ih1 _ _ _
      | exact lines_Bare.mono _ _
      | exact lines_Count.mono _ _
      | exact seineref02_Bare.mono _ _
      | exact seineref02_Split.mono _ _
      | exact LeO.none _
      | refine LeO.ite ?_ ?_
      | refine LeO.bind ?_ (fun _ => ?_)
theorem seinelaw02_LinesSplit.mono : ∀ a0 k, LeO (seinelaw02_LinesSplit.f k a0) (seinelaw02_LinesSplit.f (k + 1) a0) := by
  intro a0 k
  obtain ⟨ih0, ih1⟩ := seinelaw02_LinesSplit.mono_l k
  unfold seinelaw02_LinesSplit.f
  repeat' first
      | (with_reducible exact ih0 _ _ _)
      | (with_reducible exact ih1 _ _ _)
      | (with_reducible exact lines_Bare.mono _ _)
      | (with_reducible exact lines_Count.mono _ _)
      | (with_reducible exact seineref02_Bare.mono _ _)
      | (with_reducible exact seineref02_Split.mono _ _)
      | (with_reducible exact LeO.refl _)
      | (with_reducible exact LeO.none _)
      | (with_reducible refine LeO.ite ?_ ?_)
      | (with_reducible refine LeO.bind ?_ (fun _ => ?_))
      | exact ih0 _ _ _
      | exact ih1 _ _ _
      | exact lines_Bare.mono _ _
      | exact lines_Count.mono _ _
      | exact seineref02_Bare.mono _ _
      | exact seineref02_Split.mono _ _
      | exact LeO.none _
      | refine LeO.ite ?_ ?_
      | refine LeO.bind ?_ (fun _ => ?_)
set_option maxHeartbeats 8000000 in
set_option maxRecDepth 100000 in
theorem seinelaw02_LinesSplit.calls (k : Nat) (A0 : Option Addr) (c0 : Nat) (l0 : List Int) (r : Bool) (w : World) (hr0 : Kd.C (Kd.int .u8) w A0 l0.length l0) (hc0 : l0.length ≤ c0) (h : seinelaw02_LinesSplit.f k l0 = some r) :
    Calls Try.prog 3 #[.slice A0 l0.length c0] w fun e w' => e = .returned (.bool r) ∧ Below w.heap.size w w' := by
  have HR0 := Aside0.mk hr0
  have HC0 := Aside0.mk hc0
  clear hr0 hc0
  have HB := Aside0.mk (Below.refl w.heap.size w)
  have H : ((seinelaw02_awake.f).bind fun t118 => (if t118 = true then (if (l0.length : Int) > 1000 then (some true) else ((lines_Split.f l0).bind fun t119 => ((seineref02_Split.f k (strOfNums l0)).bind fun t122 => (if (t119.length : Int) = (t122.length : Int) then ((lines_Count.f k l0).bind fun t125 => (if t125 = (t122.length : Int) then ((lines_Bare.f k l0).bind fun t126 => ((seineref02_Bare.f k (strOfNums l0)).bind fun t127 => (seinelaw02_LinesSplit.j0 k t119 t122 (t126 != t127)))) else (seinelaw02_LinesSplit.j0 k t119 t122 true))) else (seinelaw02_LinesSplit.j0 k t119 t122 true))))) else (none))) = some r := h
  clear h
  replace H := Option.bind_eq_some_iff.mp H
  obtain ⟨t118, A20, H⟩ := H
  replace H : (if t118 = true then (if (l0.length : Int) > 1000 then (some true) else ((lines_Split.f l0).bind fun t119 => ((seineref02_Split.f k (strOfNums l0)).bind fun t122 => (if (t119.length : Int) = (t122.length : Int) then ((lines_Count.f k l0).bind fun t125 => (if t125 = (t122.length : Int) then ((lines_Bare.f k l0).bind fun t126 => ((seineref02_Bare.f k (strOfNums l0)).bind fun t127 => (seinelaw02_LinesSplit.j0 k t119 t122 (t126 != t127)))) else (seinelaw02_LinesSplit.j0 k t119 t122 true))) else (seinelaw02_LinesSplit.j0 k t119 t122 true))))) else (none)) = some r := H
  have A2 := Aside0.mk A20
  clear A20
  by_cases c3 : t118 = true
  · subst c3
    have H1 : (if (l0.length : Int) > 1000 then (some true) else ((lines_Split.f l0).bind fun t119 => ((seineref02_Split.f k (strOfNums l0)).bind fun t122 => (if (t119.length : Int) = (t122.length : Int) then ((lines_Count.f k l0).bind fun t125 => (if t125 = (t122.length : Int) then ((lines_Bare.f k l0).bind fun t126 => ((seineref02_Bare.f k (strOfNums l0)).bind fun t127 => (seinelaw02_LinesSplit.j0 k t119 t122 (t126 != t127)))) else (seinelaw02_LinesSplit.j0 k t119 t122 true))) else (seinelaw02_LinesSplit.j0 k t119 t122 true))))) = some r := by rw [if_pos rfl] at H; exact H
    clear H
    have H := H1
    clear H1
    by_cases c4 : (l0.length : Int) > 1000
    · rw [if_pos c4] at H
      have c4b0 : decide (1000 < (l0.length : Int)) = true := decide_eq_true c4
      have c4b1 : decide (1000 < l0.length) = true := decide_eq_true (by omega)
      clear c4
      obtain rfl := Option.some.inj H
      go_enter Try.func3, Try.ntmps3
      go_wp2_with (first | (go_at_call 9; (with_reducible refine (seinelaw02_awake.calls  true _ A2.out).mono ?_); rintro e w5 ⟨rfl, hb⟩; have n0_ := Aside0.mk (below_step (by repeat (first | (with_reducible first | exact HB.out | apply below_alloc | apply pw_below_drewN | apply below_drew1) | exact HB.out)) hb); clear HB; have HB := n0_; clear n0_; (try clear hb); (try clear hb2); (try clear hk); (try clear hi)))
      repeat (go_quiet (first | (go_at_call 9; (with_reducible refine (seinelaw02_awake.calls  true _ A2.out).mono ?_); rintro e w5 ⟨rfl, hb⟩; have n0_ := Aside0.mk (below_step (by repeat (first | (with_reducible first | exact HB.out | apply below_alloc | apply pw_below_drewN | apply below_drew1) | exact HB.out)) hb); clear HB; have HB := n0_; clear n0_; (try clear hb); (try clear hb2); (try clear hk); (try clear hi))); try go_wp2_with (first | (go_at_call 9; (with_reducible refine (seinelaw02_awake.calls  true _ A2.out).mono ?_); rintro e w5 ⟨rfl, hb⟩; have n0_ := Aside0.mk (below_step (by repeat (first | (with_reducible first | exact HB.out | apply below_alloc | apply pw_below_drewN | apply below_drew1) | exact HB.out)) hb); clear HB; have HB := n0_; clear n0_; (try clear hb); (try clear hb2); (try clear hk); (try clear hi))))
      go_ret
      exact ⟨by first | rfl | (simp [errW_none, errW_some] <;> rfl) | (simp [*, errW_none, errW_some] <;> rfl), by repeat (first | (with_reducible first | exact HB.out | apply below_alloc | apply pw_below_drewN | apply below_drew1) | exact HB.out)⟩
    · rw [if_neg c4] at H
      have c4b0 : decide (1000 < (l0.length : Int)) = false := decide_eq_false c4
      have c4b1 : decide (1000 < l0.length) = false := decide_eq_false (by omega)
      clear c4
      replace H := Option.bind_eq_some_iff.mp H
      obtain ⟨t119, A60, H⟩ := H
      replace H : ((seineref02_Split.f k (strOfNums l0)).bind fun t122 => (if (t119.length : Int) = (t122.length : Int) then ((lines_Count.f k l0).bind fun t125 => (if t125 = (t122.length : Int) then ((lines_Bare.f k l0).bind fun t126 => ((seineref02_Bare.f k (strOfNums l0)).bind fun t127 => (seinelaw02_LinesSplit.j0 k t119 t122 (t126 != t127)))) else (seinelaw02_LinesSplit.j0 k t119 t122 true))) else (seinelaw02_LinesSplit.j0 k t119 t122 true))) = some r := H
      have A6 := Aside0.mk A60
      clear A60
      replace H := Option.bind_eq_some_iff.mp H
      obtain ⟨t122, A70, H⟩ := H
      replace H : (if (t119.length : Int) = (t122.length : Int) then ((lines_Count.f k l0).bind fun t125 => (if t125 = (t122.length : Int) then ((lines_Bare.f k l0).bind fun t126 => ((seineref02_Bare.f k (strOfNums l0)).bind fun t127 => (seinelaw02_LinesSplit.j0 k t119 t122 (t126 != t127)))) else (seinelaw02_LinesSplit.j0 k t119 t122 true))) else (seinelaw02_LinesSplit.j0 k t119 t122 true)) = some r := H
      have A7 := Aside0.mk A70
      clear A70
      have HC8 := Aside0.mk H
      clear H
      go_enter Try.func3, Try.ntmps3
      go_upto_region 8 with (first | (go_at_call 9; (with_reducible refine (seinelaw02_awake.calls  true _ A2.out).mono ?_); rintro e w9 ⟨rfl, hb⟩; have n0_ := Aside0.mk (below_step (by repeat (first | (with_reducible first | exact HB.out | apply below_alloc | apply pw_below_drewN | apply below_drew1) | exact HB.out)) hb); clear HB; have HB := n0_; clear n0_; (try clear hb); (try clear hb2); (try clear hk); (try clear hi)) | (go_at_call 10; (with_reducible refine (lines_Split.calls _ _ l0 t119 _ ?side1 ?side2 A6.out).mono ?_); (case side1 => repeat (first | exact (Kd.C_below HR0.out HB.out) | (with_reducible refine Kd.C_alloc ?_ _) | (with_reducible refine Kd.C_drewN ?_ _) | (with_reducible refine Kd.C_drew ?_))); (case side2 => exact HC0.out); rintro e w10 ⟨v120, rfl, ho0, hb⟩; have n0_ := Aside0.mk (Kd.S_lower ho0 (below_size (by repeat (first | (with_reducible first | exact HB.out | apply below_alloc | apply pw_below_drewN | apply below_drew1) | exact HB.out)))); have n1_ := Aside0.mk (below_step (by repeat (first | (with_reducible first | exact HB.out | apply below_alloc | apply pw_below_drewN | apply below_drew1) | exact HB.out)) hb); clear HB; have HO121 := n0_; have HB := n1_; clear n0_ n1_; (try clear hb); (try clear hb2); (try clear hk); (try clear hi); (try clear ho0); have hcv11 := Kd.C_string (P := Try.prog) (A := A0) (c := c0) Try.underlying22 Try.underlying5 Try.underlying9 (Kd.C_below HR0.out HB.out)) | (go_at_call 11; (with_reducible refine (seineref02_Split.calls k (strOfNums l0) t122 _ A7.out).mono ?_); rintro e w12 ⟨v123, rfl, ho0, hb⟩; have n0_ := Aside0.mk (Kd.S_below (by (with_reducible repeat (first | apply Kd.S_alloc | apply Kd.S_drewN | apply Kd.S_drew)); exact HO121.out) hb); have n1_ := Aside0.mk (Kd.R_lower ho0 (below_size (by repeat (first | (with_reducible first | exact HB.out | apply below_alloc | apply pw_below_drewN | apply below_drew1) | exact HB.out)))); have n2_ := Aside0.mk (below_step (by repeat (first | (with_reducible first | exact HB.out | apply below_alloc | apply pw_below_drewN | apply below_drew1) | exact HB.out)) hb); clear HO121; clear HB; have HO121 := n0_; have HO124 := n1_; have HB := n2_; clear n0_ n1_ n2_; (try clear hb); (try clear hb2); (try clear hk); (try clear hi); (try clear ho0)))
      repeat (go_quiet (first | (go_at_call 9; (with_reducible refine (seinelaw02_awake.calls  true _ A2.out).mono ?_); rintro e w9 ⟨rfl, hb⟩; have n0_ := Aside0.mk (below_step (by repeat (first | (with_reducible first | exact HB.out | apply below_alloc | apply pw_below_drewN | apply below_drew1) | exact HB.out)) hb); clear HB; have HB := n0_; clear n0_; (try clear hb); (try clear hb2); (try clear hk); (try clear hi)) | (go_at_call 10; (with_reducible refine (lines_Split.calls _ _ l0 t119 _ ?side1 ?side2 A6.out).mono ?_); (case side1 => repeat (first | exact (Kd.C_below HR0.out HB.out) | (with_reducible refine Kd.C_alloc ?_ _) | (with_reducible refine Kd.C_drewN ?_ _) | (with_reducible refine Kd.C_drew ?_))); (case side2 => exact HC0.out); rintro e w10 ⟨v120, rfl, ho0, hb⟩; have n0_ := Aside0.mk (Kd.S_lower ho0 (below_size (by repeat (first | (with_reducible first | exact HB.out | apply below_alloc | apply pw_below_drewN | apply below_drew1) | exact HB.out)))); have n1_ := Aside0.mk (below_step (by repeat (first | (with_reducible first | exact HB.out | apply below_alloc | apply pw_below_drewN | apply below_drew1) | exact HB.out)) hb); clear HB; have HO121 := n0_; have HB := n1_; clear n0_ n1_; (try clear hb); (try clear hb2); (try clear hk); (try clear hi); (try clear ho0); have hcv11 := Kd.C_string (P := Try.prog) (A := A0) (c := c0) Try.underlying22 Try.underlying5 Try.underlying9 (Kd.C_below HR0.out HB.out)) | (go_at_call 11; (with_reducible refine (seineref02_Split.calls k (strOfNums l0) t122 _ A7.out).mono ?_); rintro e w12 ⟨v123, rfl, ho0, hb⟩; have n0_ := Aside0.mk (Kd.S_below (by (with_reducible repeat (first | apply Kd.S_alloc | apply Kd.S_drewN | apply Kd.S_drew)); exact HO121.out) hb); have n1_ := Aside0.mk (Kd.R_lower ho0 (below_size (by repeat (first | (with_reducible first | exact HB.out | apply below_alloc | apply pw_below_drewN | apply below_drew1) | exact HB.out)))); have n2_ := Aside0.mk (below_step (by repeat (first | (with_reducible first | exact HB.out | apply below_alloc | apply pw_below_drewN | apply below_drew1) | exact HB.out)) hb); clear HO121; clear HB; have HO121 := n0_; have HO124 := n1_; have HB := n2_; clear n0_ n1_ n2_; (try clear hb); (try clear hb2); (try clear hk); (try clear hi); (try clear ho0))); go_upto_region 8 with (first | (go_at_call 9; (with_reducible refine (seinelaw02_awake.calls  true _ A2.out).mono ?_); rintro e w9 ⟨rfl, hb⟩; have n0_ := Aside0.mk (below_step (by repeat (first | (with_reducible first | exact HB.out | apply below_alloc | apply pw_below_drewN | apply below_drew1) | exact HB.out)) hb); clear HB; have HB := n0_; clear n0_; (try clear hb); (try clear hb2); (try clear hk); (try clear hi)) | (go_at_call 10; (with_reducible refine (lines_Split.calls _ _ l0 t119 _ ?side1 ?side2 A6.out).mono ?_); (case side1 => repeat (first | exact (Kd.C_below HR0.out HB.out) | (with_reducible refine Kd.C_alloc ?_ _) | (with_reducible refine Kd.C_drewN ?_ _) | (with_reducible refine Kd.C_drew ?_))); (case side2 => exact HC0.out); rintro e w10 ⟨v120, rfl, ho0, hb⟩; have n0_ := Aside0.mk (Kd.S_lower ho0 (below_size (by repeat (first | (with_reducible first | exact HB.out | apply below_alloc | apply pw_below_drewN | apply below_drew1) | exact HB.out)))); have n1_ := Aside0.mk (below_step (by repeat (first | (with_reducible first | exact HB.out | apply below_alloc | apply pw_below_drewN | apply below_drew1) | exact HB.out)) hb); clear HB; have HO121 := n0_; have HB := n1_; clear n0_ n1_; (try clear hb); (try clear hb2); (try clear hk); (try clear hi); (try clear ho0); have hcv11 := Kd.C_string (P := Try.prog) (A := A0) (c := c0) Try.underlying22 Try.underlying5 Try.underlying9 (Kd.C_below HR0.out HB.out)) | (go_at_call 11; (with_reducible refine (seineref02_Split.calls k (strOfNums l0) t122 _ A7.out).mono ?_); rintro e w12 ⟨v123, rfl, ho0, hb⟩; have n0_ := Aside0.mk (Kd.S_below (by (with_reducible repeat (first | apply Kd.S_alloc | apply Kd.S_drewN | apply Kd.S_drew)); exact HO121.out) hb); have n1_ := Aside0.mk (Kd.R_lower ho0 (below_size (by repeat (first | (with_reducible first | exact HB.out | apply below_alloc | apply pw_below_drewN | apply below_drew1) | exact HB.out)))); have n2_ := Aside0.mk (below_step (by repeat (first | (with_reducible first | exact HB.out | apply below_alloc | apply pw_below_drewN | apply below_drew1) | exact HB.out)) hb); clear HO121; clear HB; have HO121 := n0_; have HO124 := n1_; have HB := n2_; clear n0_ n1_ n2_; (try clear hb); (try clear hb2); (try clear hk); (try clear hi); (try clear ho0))))
      (try simp only [Act.put, List.setIfInBounds_toArray, List.set_cons_zero, List.set_cons_succ])
      go_cut [37] (fun v37 wc => ∃ (kq : Nat) (x37_7 : Bool), v37 = .bool x37_7 ∧ Aside0 (seinelaw02_LinesSplit.j0 kq t119 t122 x37_7 = some r) ∧ Aside0 (kq ≤ k) ∧ Aside0 (Kd.S k31 31 wc w.heap.size (fun _ => True) v120 t119) ∧ Aside0 (Kd.R k33 33 wc w.heap.size (fun _ => True) v123 t122) ∧ Aside0 (Below w.heap.size w wc))
      case first =>
        have H := HC8.out
        clear HC8
        by_cases c13 : (t119.length : Int) = (t122.length : Int)
        · rw [if_pos c13] at H
          have c13b0 : ((t119.length : Int) == (t122.length : Int)) = true := beq_iff_eq.mpr c13
          have c13b1 : ((t119.length : Int) != (t122.length : Int)) = false := bne_eq_false_iff_eq.mpr c13
          have c13b2 : (t119.length == t122.length) = true := by first | simpa using c13 | (simp at c13 ⊢; omega)
          clear c13
          (first | rw [c13b0] | (simp only [i64_w, i32_w]; rw [c13b0]) | skip)
          replace H := Option.bind_eq_some_iff.mp H
          obtain ⟨t125, A140, H⟩ := H
          replace H : (if t125 = (t122.length : Int) then ((lines_Bare.f k l0).bind fun t126 => ((seineref02_Bare.f k (strOfNums l0)).bind fun t127 => (seinelaw02_LinesSplit.j0 k t119 t122 (t126 != t127)))) else (seinelaw02_LinesSplit.j0 k t119 t122 true)) = some r := H
          have A14 := Aside0.mk A140
          clear A140
          by_cases c15 : t125 = (t122.length : Int)
          · rw [if_pos c15] at H
            have c15b0 : (t125 == (t122.length : Int)) = true := beq_iff_eq.mpr c15
            have c15b1 : (t125 != (t122.length : Int)) = false := bne_eq_false_iff_eq.mpr c15
            clear c15
            replace H := Option.bind_eq_some_iff.mp H
            obtain ⟨t126, A160, H⟩ := H
            replace H : ((seineref02_Bare.f k (strOfNums l0)).bind fun t127 => (seinelaw02_LinesSplit.j0 k t119 t122 (t126 != t127))) = some r := H
            have A16 := Aside0.mk A160
            clear A160
            replace H := Option.bind_eq_some_iff.mp H
            obtain ⟨t127, A170, H⟩ := H
            replace H : (seinelaw02_LinesSplit.j0 k t119 t122 (t126 != t127)) = some r := H
            have A17 := Aside0.mk A170
            clear A170
            have H' := Aside0.mk H
            clear H
            obtain ⟨Ao18, co18, eo18⟩ := Kd.S_slice HO121.out
            subst eo18
            obtain ⟨Ao19, co19, eo19⟩ := Kd.R_slice HO124.out
            subst eo19
            have hcvu1 := fun m => Kd.C_string (P := Try.prog) (A := A0) (c := c0) Try.underlying22 Try.underlying5 Try.underlying9 (Kd.C_drewN (Kd.C_below HR0.out HB.out) m)
            have hcvv1 := Kd.C_string (P := Try.prog) (A := A0) (c := c0) Try.underlying22 Try.underlying5 Try.underlying9 (Kd.C_below HR0.out HB.out)
            go_wp2_with (first | (go_at_call 12; (with_reducible refine (lines_Count.calls k _ _ l0 t125 _ ?side1 ?side2 A14.out).mono ?_); (case side1 => repeat (first | exact (Kd.C_below HR0.out HB.out) | (with_reducible refine Kd.C_alloc ?_ _) | (with_reducible refine Kd.C_drewN ?_ _) | (with_reducible refine Kd.C_drew ?_))); (case side2 => exact HC0.out); rintro e w' ⟨rfl, ⟨nd, rfl⟩⟩; (try first | exact ⟨rfl, _, World.drewN_drewN _ _ _⟩ | exact ⟨rfl, _, Eq.trans (World.drewN_drewN _ _ _) (congrArg (World.drewN _) (Nat.add_assoc _ _ _))⟩)) | (go_at_call 13; (with_reducible refine (lines_Bare.calls k _ _ l0 t126 _ ?side1 ?side2 A16.out).mono ?_); (case side1 => repeat (first | exact (Kd.C_below HR0.out (by repeat (first | (with_reducible first | exact HB.out | apply below_alloc | apply pw_below_drewN | apply below_drew1) | exact HB.out))) | (with_reducible refine Kd.C_alloc ?_ _) | (with_reducible refine Kd.C_drewN ?_ _) | (with_reducible refine Kd.C_drew ?_))); (case side2 => exact HC0.out); rintro e w' ⟨rfl, ⟨nd, rfl⟩⟩; (try first | exact ⟨rfl, _, World.drewN_drewN _ _ _⟩ | exact ⟨rfl, _, Eq.trans (World.drewN_drewN _ _ _) (congrArg (World.drewN _) (Nat.add_assoc _ _ _))⟩); have hcv20 := Kd.C_string (P := Try.prog) (A := A0) (c := c0) Try.underlying22 Try.underlying5 Try.underlying9 (Kd.C_below HR0.out HB.out)) | (go_at_call 14; (with_reducible refine (seineref02_Bare.calls k (strOfNums l0) t127 _ A17.out).mono ?_); rintro e w' ⟨rfl, ⟨nd, rfl⟩⟩; (try first | exact ⟨rfl, _, World.drewN_drewN _ _ _⟩ | exact ⟨rfl, _, Eq.trans (World.drewN_drewN _ _ _) (congrArg (World.drewN _) (Nat.add_assoc _ _ _))⟩)))
            repeat (go_quiet (first | (go_at_call 12; (with_reducible refine (lines_Count.calls k _ _ l0 t125 _ ?side1 ?side2 A14.out).mono ?_); (case side1 => repeat (first | exact (Kd.C_below HR0.out HB.out) | (with_reducible refine Kd.C_alloc ?_ _) | (with_reducible refine Kd.C_drewN ?_ _) | (with_reducible refine Kd.C_drew ?_))); (case side2 => exact HC0.out); rintro e w' ⟨rfl, ⟨nd, rfl⟩⟩; (try first | exact ⟨rfl, _, World.drewN_drewN _ _ _⟩ | exact ⟨rfl, _, Eq.trans (World.drewN_drewN _ _ _) (congrArg (World.drewN _) (Nat.add_assoc _ _ _))⟩)) | (go_at_call 13; (with_reducible refine (lines_Bare.calls k _ _ l0 t126 _ ?side1 ?side2 A16.out).mono ?_); (case side1 => repeat (first | exact (Kd.C_below HR0.out (by repeat (first | (with_reducible first | exact HB.out | apply below_alloc | apply pw_below_drewN | apply below_drew1) | exact HB.out))) | (with_reducible refine Kd.C_alloc ?_ _) | (with_reducible refine Kd.C_drewN ?_ _) | (with_reducible refine Kd.C_drew ?_))); (case side2 => exact HC0.out); rintro e w' ⟨rfl, ⟨nd, rfl⟩⟩; (try first | exact ⟨rfl, _, World.drewN_drewN _ _ _⟩ | exact ⟨rfl, _, Eq.trans (World.drewN_drewN _ _ _) (congrArg (World.drewN _) (Nat.add_assoc _ _ _))⟩); have hcv20 := Kd.C_string (P := Try.prog) (A := A0) (c := c0) Try.underlying22 Try.underlying5 Try.underlying9 (Kd.C_below HR0.out HB.out)) | (go_at_call 14; (with_reducible refine (seineref02_Bare.calls k (strOfNums l0) t127 _ A17.out).mono ?_); rintro e w' ⟨rfl, ⟨nd, rfl⟩⟩; (try first | exact ⟨rfl, _, World.drewN_drewN _ _ _⟩ | exact ⟨rfl, _, Eq.trans (World.drewN_drewN _ _ _) (congrArg (World.drewN _) (Nat.add_assoc _ _ _))⟩))); try go_wp2_with (first | (go_at_call 12; (with_reducible refine (lines_Count.calls k _ _ l0 t125 _ ?side1 ?side2 A14.out).mono ?_); (case side1 => repeat (first | exact (Kd.C_below HR0.out HB.out) | (with_reducible refine Kd.C_alloc ?_ _) | (with_reducible refine Kd.C_drewN ?_ _) | (with_reducible refine Kd.C_drew ?_))); (case side2 => exact HC0.out); rintro e w' ⟨rfl, ⟨nd, rfl⟩⟩; (try first | exact ⟨rfl, _, World.drewN_drewN _ _ _⟩ | exact ⟨rfl, _, Eq.trans (World.drewN_drewN _ _ _) (congrArg (World.drewN _) (Nat.add_assoc _ _ _))⟩)) | (go_at_call 13; (with_reducible refine (lines_Bare.calls k _ _ l0 t126 _ ?side1 ?side2 A16.out).mono ?_); (case side1 => repeat (first | exact (Kd.C_below HR0.out (by repeat (first | (with_reducible first | exact HB.out | apply below_alloc | apply pw_below_drewN | apply below_drew1) | exact HB.out))) | (with_reducible refine Kd.C_alloc ?_ _) | (with_reducible refine Kd.C_drewN ?_ _) | (with_reducible refine Kd.C_drew ?_))); (case side2 => exact HC0.out); rintro e w' ⟨rfl, ⟨nd, rfl⟩⟩; (try first | exact ⟨rfl, _, World.drewN_drewN _ _ _⟩ | exact ⟨rfl, _, Eq.trans (World.drewN_drewN _ _ _) (congrArg (World.drewN _) (Nat.add_assoc _ _ _))⟩); have hcv20 := Kd.C_string (P := Try.prog) (A := A0) (c := c0) Try.underlying22 Try.underlying5 Try.underlying9 (Kd.C_below HR0.out HB.out)) | (go_at_call 14; (with_reducible refine (seineref02_Bare.calls k (strOfNums l0) t127 _ A17.out).mono ?_); rintro e w' ⟨rfl, ⟨nd, rfl⟩⟩; (try first | exact ⟨rfl, _, World.drewN_drewN _ _ _⟩ | exact ⟨rfl, _, Eq.trans (World.drewN_drewN _ _ _) (congrArg (World.drewN _) (Nat.add_assoc _ _ _))⟩))))
            go_meet
            case rel => exact ⟨_, ((t126 != t127)), (by first | rfl | (simp; done) | (simp [*]; done) | (simp; exact (by intro a b; cases a <;> cases b <;> rfl : ∀ a b : Bool, (a == b) = (!(a != b))) _ _)), H', ⟨by first | omega | exact Nat.le_refl _⟩, ⟨by (with_reducible repeat (first | apply Kd.S_alloc | apply Kd.S_drewN | apply Kd.S_drew)); exact HO121.out⟩, ⟨by (with_reducible repeat (first | apply Kd.R_alloc | apply Kd.R_drewN | apply Kd.R_drew)); exact HO124.out⟩, ⟨by repeat (first | (with_reducible first | exact HB.out | apply below_alloc | apply pw_below_drewN | apply below_drew1) | exact HB.out)⟩⟩
          · rw [if_neg c15] at H
            have c15b0 : (t125 == (t122.length : Int)) = false := beq_eq_false_iff_ne.mpr c15
            have c15b1 : (t125 != (t122.length : Int)) = true := bne_iff_ne.mpr c15
            have H' := Aside0.mk H
            clear H
            obtain ⟨Ao21, co21, eo21⟩ := Kd.S_slice HO121.out
            subst eo21
            obtain ⟨Ao22, co22, eo22⟩ := Kd.R_slice HO124.out
            subst eo22
            go_wp2_with (first | (go_at_call 12; (with_reducible refine (lines_Count.calls k _ _ l0 t125 _ ?side1 ?side2 A14.out).mono ?_); (case side1 => repeat (first | exact (Kd.C_below HR0.out HB.out) | (with_reducible refine Kd.C_alloc ?_ _) | (with_reducible refine Kd.C_drewN ?_ _) | (with_reducible refine Kd.C_drew ?_))); (case side2 => exact HC0.out); rintro e w' ⟨rfl, ⟨nd, rfl⟩⟩; (try first | exact ⟨rfl, _, World.drewN_drewN _ _ _⟩ | exact ⟨rfl, _, Eq.trans (World.drewN_drewN _ _ _) (congrArg (World.drewN _) (Nat.add_assoc _ _ _))⟩)))
            repeat (go_quiet (first | (go_at_call 12; (with_reducible refine (lines_Count.calls k _ _ l0 t125 _ ?side1 ?side2 A14.out).mono ?_); (case side1 => repeat (first | exact (Kd.C_below HR0.out HB.out) | (with_reducible refine Kd.C_alloc ?_ _) | (with_reducible refine Kd.C_drewN ?_ _) | (with_reducible refine Kd.C_drew ?_))); (case side2 => exact HC0.out); rintro e w' ⟨rfl, ⟨nd, rfl⟩⟩; (try first | exact ⟨rfl, _, World.drewN_drewN _ _ _⟩ | exact ⟨rfl, _, Eq.trans (World.drewN_drewN _ _ _) (congrArg (World.drewN _) (Nat.add_assoc _ _ _))⟩))); try go_wp2_with (first | (go_at_call 12; (with_reducible refine (lines_Count.calls k _ _ l0 t125 _ ?side1 ?side2 A14.out).mono ?_); (case side1 => repeat (first | exact (Kd.C_below HR0.out HB.out) | (with_reducible refine Kd.C_alloc ?_ _) | (with_reducible refine Kd.C_drewN ?_ _) | (with_reducible refine Kd.C_drew ?_))); (case side2 => exact HC0.out); rintro e w' ⟨rfl, ⟨nd, rfl⟩⟩; (try first | exact ⟨rfl, _, World.drewN_drewN _ _ _⟩ | exact ⟨rfl, _, Eq.trans (World.drewN_drewN _ _ _) (congrArg (World.drewN _) (Nat.add_assoc _ _ _))⟩))))
            go_meet
            case rel => exact ⟨_, (true), (by first | rfl | (simp; done) | (simp [*]; done) | (simp; exact (by intro a b; cases a <;> cases b <;> rfl : ∀ a b : Bool, (a == b) = (!(a != b))) _ _)), H', ⟨by first | omega | exact Nat.le_refl _⟩, ⟨by (with_reducible repeat (first | apply Kd.S_alloc | apply Kd.S_drewN | apply Kd.S_drew)); exact HO121.out⟩, ⟨by (with_reducible repeat (first | apply Kd.R_alloc | apply Kd.R_drewN | apply Kd.R_drew)); exact HO124.out⟩, ⟨by repeat (first | (with_reducible first | exact HB.out | apply below_alloc | apply pw_below_drewN | apply below_drew1) | exact HB.out)⟩⟩
        · rw [if_neg c13] at H
          have c13b0 : ((t119.length : Int) == (t122.length : Int)) = false := beq_eq_false_iff_ne.mpr c13
          have c13b1 : ((t119.length : Int) != (t122.length : Int)) = true := bne_iff_ne.mpr c13
          have c13b2 : (t119.length == t122.length) = false := by first | simpa using c13 | (simp at c13 ⊢; omega)
          (first | rw [c13b0] | (simp only [i64_w, i32_w]; rw [c13b0]) | skip)
          have H' := Aside0.mk H
          clear H
          obtain ⟨Ao23, co23, eo23⟩ := Kd.S_slice HO121.out
          subst eo23
          obtain ⟨Ao24, co24, eo24⟩ := Kd.R_slice HO124.out
          subst eo24
          go_wp2
          repeat (go_quiet (fail); try go_wp2)
          go_meet
          case rel => exact ⟨_, (true), (by first | rfl | (simp; done) | (simp [*]; done) | (simp; exact (by intro a b; cases a <;> cases b <;> rfl : ∀ a b : Bool, (a == b) = (!(a != b))) _ _)), H', ⟨by first | omega | exact Nat.le_refl _⟩, ⟨by (with_reducible repeat (first | apply Kd.S_alloc | apply Kd.S_drewN | apply Kd.S_drew)); exact HO121.out⟩, ⟨by (with_reducible repeat (first | apply Kd.R_alloc | apply Kd.R_drewN | apply Kd.R_drew)); exact HO124.out⟩, ⟨by repeat (first | (with_reducible first | exact HB.out | apply below_alloc | apply pw_below_drewN | apply below_drew1) | exact HB.out)⟩⟩
      case rest =>
        clear HC8
        try clear c1
        try clear hcv1
        try clear p2
        try clear hcv2
        try clear c3
        try clear c4
        try clear c4b0
        try clear c4b1
        try clear hcv11
        try clear c13
        try clear c13b0
        try clear c13b1
        try clear c13b2
        try clear c15
        try clear c15b0
        try clear c15b1
        try clear hcv20
        obtain ⟨kq, x37_7, rfl, HA, HJ7, HO_4, HO_5, HB⟩ := hcut
        cases kq with
        | zero => exact absurd HA.out (by simp [seinelaw02_LinesSplit.j0])
        | succ kj7 =>
          have H := HA.out
          clear HA
          simp only [seinelaw02_LinesSplit.j0] at H
          by_cases c25 : x37_7 = true
          · subst c25
            have H1 : (none) = some r := by rw [if_pos rfl] at H; exact H
            clear H
            have H := H1
            clear H1
            exact absurd H (by simp)
          · replace c25 := Bool.eq_false_iff.mpr c25
            subst c25
            have H1 : (seinelaw02_LinesSplit.l0 kj7 t119 t122 0) = some r := by rw [if_neg (show ¬ (false = true) by decide)] at H; exact H
            clear H
            have H := H1
            clear H1
            have H' := Aside0.mk H
            clear H
            go_wp2
            repeat (go_quiet (fail); try go_wp2)
            go_loopg [6] kj7 (fun kq v6 w' => ∃ (x6_2 : Int), v6 = .int .i64 x6_2 ∧ Aside0 (seinelaw02_LinesSplit.l0 kq t119 t122 x6_2 = some r) ∧ Aside0 (kq ≤ kj7) ∧ Aside0 (Kd.S k31 31 w' w.heap.size (fun _ => True) v120 t119) ∧ Aside0 (Kd.R k33 33 w' w.heap.size (fun _ => True) v123 t122) ∧ Aside0 (Below w.heap.size w w'))
            case atStart => exact ⟨(0), (by first | rfl | (simp; done) | (simp [*]; done) | (simp; exact (by intro a b; cases a <;> cases b <;> rfl : ∀ a b : Bool, (a == b) = (!(a != b))) _ _)), H', ⟨Nat.le_refl _⟩, ⟨by (with_reducible repeat (first | apply Kd.S_alloc | apply Kd.S_drewN | apply Kd.S_drew)); exact HO_4.out⟩, ⟨by (with_reducible repeat (first | apply Kd.R_alloc | apply Kd.R_drewN | apply Kd.R_drew)); exact HO_5.out⟩, ⟨by repeat (first | (with_reducible first | exact HB.out | apply below_alloc | apply pw_below_drewN | apply below_drew1) | exact HB.out)⟩⟩
            case round =>
              clear H'
              try clear c1
              try clear hcv1
              try clear c2
              try clear p2
              try clear hcv2
              try clear c3
              try clear c4
              try clear c4b0
              try clear c4b1
              try clear hcv11
              try clear c13
              try clear c13b0
              try clear c13b1
              try clear c13b2
              try clear c15
              try clear c15b0
              try clear c15b1
              try clear hcv20
              try clear c25
              try clear p2
              obtain ⟨x6_2, rfl, HA, HK2, HO_4, HO_5, HB⟩ := hrel
              cases gk with
              | zero => exact absurd HA.out (by simp [seinelaw02_LinesSplit.l0])
              | succ k2 =>
                have H := HA.out
                clear HA
                simp only [seinelaw02_LinesSplit.l0] at H
                by_cases c26 : x6_2 < (t119.length : Int)
                · rw [if_pos c26] at H
                  have c26b0 : decide (x6_2 < (t119.length : Int)) = true := decide_eq_true c26
                  clear c26
                  by_cases c27 : 0 ≤ x6_2
                  · rw [if_pos c27] at H
                    have c27b0 : decide (0 ≤ x6_2) = true := decide_eq_true c27
                    clear c27
                    by_cases c28 : x6_2 < (t122.length : Int)
                    · rw [if_pos c28] at H
                      have c28b0 : decide (x6_2 < (t122.length : Int)) = true := decide_eq_true c28
                      clear c28
                      by_cases c29 : ((rd_T31 t119 x6_2).f0) = ((rd_T33 t122 x6_2).f0)
                      · rw [if_pos c29] at H
                        have c29b0 : (((rd_T31 t119 x6_2).f0) == ((rd_T33 t122 x6_2).f0)) = true := beq_iff_eq.mpr c29
                        have c29b1 : (((rd_T31 t119 x6_2).f0) != ((rd_T33 t122 x6_2).f0)) = false := bne_eq_false_iff_eq.mpr c29
                        clear c29
                        by_cases c30 : (strOfNums ((rd_T31 t119 x6_2).f1)).toList = ((rd_T33 t122 x6_2).f1).toList
                        · rw [if_pos c30] at H
                          have c30b0 : ((strOfNums ((rd_T31 t119 x6_2).f1)).toList == ((rd_T33 t122 x6_2).f1).toList) = true := beq_iff_eq.mpr c30
                          have c30b1 : ((strOfNums ((rd_T31 t119 x6_2).f1)).toList != ((rd_T33 t122 x6_2).f1).toList) = false := bne_eq_false_iff_eq.mpr c30
                          clear c30
                          by_cases c31 : (((rd_T31 t119 x6_2).f2) != ((rd_T33 t122 x6_2).f2)) = true
                          · rw [if_pos c31] at H
                            exact absurd H (by simp)
                          · rw [if_neg c31] at H
                            have c31b0 : (((rd_T31 t119 x6_2).f2) != ((rd_T33 t122 x6_2).f2)) = false := by simpa using c31
                            (try (have c31b1 : decide (((rd_T31 t119 x6_2).f2) = ((rd_T33 t122 x6_2).f2)) = true := by simpa using c31))
                            (try (have c31b2 : (((rd_T31 t119 x6_2).f2) == ((rd_T33 t122 x6_2).f2)) = true := by simpa using c31))
                            clear c31
                            have H' := Aside0.mk H
                            clear H
                            obtain ⟨Ao32, co32, eo32⟩ := Kd.S_slice HO_4.out
                            subst eo32
                            have p128 : 0 ≤ (x6_2 : Int) := of_decide_eq_true (by first | (with_reducible assumption) | assumption)
                            have q128 : x6_2 < (t119.length : Int) := of_decide_eq_true (by first | (with_reducible assumption) | assumption)
                            obtain ⟨ad128, A128_1, c128_1, e128, hx128_0, hx128_1, hx128_2, hl128_1, hi128_1⟩ := at_T31 (Kd.S_reads' HO_4.out).2.2 x6_2 p128 q128
                            cases e128
                            obtain ⟨ce128, hce128, hMe128, hcc128⟩ := Kd.S_get HO_4.out z31 x6_2 p128 (by first | exact q128 | exact of_decide_eq_true (by first | (with_reducible assumption) | assumption) | (have e_ := (Kd.S_reads' HO_4.out).1; omega))
                            obtain ⟨ve128_1, rfl, ge128_1⟩ := k31_openM hMe128
                            have hv128_1 := hcc128 1 _ rfl
                            rw [add_field _ _ 1 (by omega)] at hv128_1
                            replace hv128_1 := Option.some.inj (hv128_1.symm.trans hx128_1)
                            rw [hv128_1] at ge128_1
                            have HL128_1 := Aside0.mk (show Kd.R (Kd.int .u8) 5 _ _ _ _ ((rd_T31 t119 x6_2).f1) from ge128_1)
                            clear hv128_1 ge128_1
                            clear hcc128 hce128
                            have HR128_1 := Aside0.mk hi128_1
                            have HC128_1 := Aside0.mk hl128_1
                            clear hi128_1 hl128_1
                            replace p128 := eq_true p128
                            replace q128 := eq_true q128
                            obtain ⟨Ao33, co33, eo33⟩ := Kd.R_slice HO_5.out
                            subst eo33
                            have p129 : 0 ≤ (x6_2 : Int) := of_decide_eq_true (by first | (with_reducible assumption) | assumption)
                            have q129 : x6_2 < (t122.length : Int) := of_decide_eq_true (by first | (with_reducible assumption) | assumption)
                            obtain ⟨ad129, e129, hx129_0, hx129_1, hx129_2⟩ := at_T33 (Kd.R_reads' HO_5.out).2.2 x6_2 p129 q129
                            cases e129
                            replace p129 := eq_true p129
                            replace q129 := eq_true q129
                            have p130 : 0 ≤ (x6_2 : Int) := of_decide_eq_true (by first | (with_reducible assumption) | assumption)
                            have q130 : x6_2 < (t119.length : Int) := of_decide_eq_true (by first | (with_reducible assumption) | assumption)
                            obtain ⟨ad130, A130_1, c130_1, e130, hx130_0, hx130_1, hx130_2, hl130_1, hi130_1⟩ := at_T31 (Kd.S_reads' HO_4.out).2.2 x6_2 p130 q130
                            obtain rfl : ad128 = ad130 := (by injection e130)
                            obtain ⟨ce130, hce130, hMe130, hcc130⟩ := Kd.S_get HO_4.out z31 x6_2 p130 (by first | exact q130 | exact of_decide_eq_true (by first | (with_reducible assumption) | assumption) | (have e_ := (Kd.S_reads' HO_4.out).1; omega))
                            obtain ⟨ve130_1, rfl, ge130_1⟩ := k31_openM hMe130
                            have hv130_1 := hcc130 1 _ rfl
                            rw [add_field _ _ 1 (by omega)] at hv130_1
                            replace hv130_1 := Option.some.inj (hv130_1.symm.trans hx130_1)
                            rw [hv130_1] at ge130_1
                            have HL130_1 := Aside0.mk (show Kd.R (Kd.int .u8) 5 _ _ _ _ ((rd_T31 t119 x6_2).f1) from ge130_1)
                            clear hv130_1 ge130_1
                            clear hcc130 hce130
                            have HR130_1 := Aside0.mk hi130_1
                            have HC130_1 := Aside0.mk hl130_1
                            clear hi130_1 hl130_1
                            replace p130 := eq_true p130
                            replace q130 := eq_true q130
                            have ea_ := Option.some.inj (hx128_1.symm.trans hx130_1)
                            injection ea_ with ea_ en_ ec_
                            subst ea_
                            subst ec_
                            clear en_
                            have hcv34 := Kd.C_string (P := Try.prog) (A := A128_1) (c := c128_1) Try.underlying22 Try.underlying5 Try.underlying9 (by repeat (first | (with_reducible exact HR130_1.out) | (with_reducible refine Kd.C_alloc ?_ _) | (with_reducible refine Kd.C_drewN ?_ _) | (with_reducible refine Kd.C_drew ?_) | exact HR130_1.out))
                            have hcvq34 := fun m => Kd.C_string (P := Try.prog) (A := A128_1) (c := c128_1) Try.underlying22 Try.underlying5 Try.underlying9 (Kd.C_drewN (by repeat (first | (with_reducible exact HR130_1.out) | (with_reducible refine Kd.C_alloc ?_ _) | (with_reducible refine Kd.C_drewN ?_ _) | (with_reducible refine Kd.C_drew ?_) | exact HR130_1.out)) m)
                            have p131 : 0 ≤ (x6_2 : Int) := of_decide_eq_true (by first | (with_reducible assumption) | assumption)
                            have q131 : x6_2 < (t122.length : Int) := of_decide_eq_true (by first | (with_reducible assumption) | assumption)
                            obtain ⟨ad131, e131, hx131_0, hx131_1, hx131_2⟩ := at_T33 (Kd.R_reads' HO_5.out).2.2 x6_2 p131 q131
                            obtain rfl : ad129 = ad131 := (by injection e131)
                            replace p131 := eq_true p131
                            replace q131 := eq_true q131
                            have p132 : 0 ≤ (x6_2 : Int) := of_decide_eq_true (by first | (with_reducible assumption) | assumption)
                            have q132 : x6_2 < (t119.length : Int) := of_decide_eq_true (by first | (with_reducible assumption) | assumption)
                            obtain ⟨ad132, A132_1, c132_1, e132, hx132_0, hx132_1, hx132_2, hl132_1, hi132_1⟩ := at_T31 (Kd.S_reads' HO_4.out).2.2 x6_2 p132 q132
                            obtain rfl : ad128 = ad132 := (by injection e132)
                            obtain ⟨ce132, hce132, hMe132, hcc132⟩ := Kd.S_get HO_4.out z31 x6_2 p132 (by first | exact q132 | exact of_decide_eq_true (by first | (with_reducible assumption) | assumption) | (have e_ := (Kd.S_reads' HO_4.out).1; omega))
                            obtain ⟨ve132_1, rfl, ge132_1⟩ := k31_openM hMe132
                            have hv132_1 := hcc132 1 _ rfl
                            rw [add_field _ _ 1 (by omega)] at hv132_1
                            replace hv132_1 := Option.some.inj (hv132_1.symm.trans hx132_1)
                            rw [hv132_1] at ge132_1
                            have HL132_1 := Aside0.mk (show Kd.R (Kd.int .u8) 5 _ _ _ _ ((rd_T31 t119 x6_2).f1) from ge132_1)
                            clear hv132_1 ge132_1
                            clear hcc132 hce132
                            have HR132_1 := Aside0.mk hi132_1
                            have HC132_1 := Aside0.mk hl132_1
                            clear hi132_1 hl132_1
                            replace p132 := eq_true p132
                            replace q132 := eq_true q132
                            have ea_ := Option.some.inj (hx128_1.symm.trans hx132_1)
                            injection ea_ with ea_ en_ ec_
                            subst ea_
                            subst ec_
                            clear en_
                            have p133 : 0 ≤ (x6_2 : Int) := of_decide_eq_true (by first | (with_reducible assumption) | assumption)
                            have q133 : x6_2 < (t122.length : Int) := of_decide_eq_true (by first | (with_reducible assumption) | assumption)
                            obtain ⟨ad133, e133, hx133_0, hx133_1, hx133_2⟩ := at_T33 (Kd.R_reads' HO_5.out).2.2 x6_2 p133 q133
                            obtain rfl : ad129 = ad133 := (by injection e133)
                            replace p133 := eq_true p133
                            replace q133 := eq_true q133
                            go_wp2
                            repeat (go_quiet (fail); try go_wp2)
                            go_roundg k2
                            case measure => have := HJ7.out; have := HK2.out; omega
                            case rel => exact ⟨(wrap64 (x6_2 + 1)), (by first | rfl | (simp; done) | (simp [*]; done) | (simp; exact (by intro a b; cases a <;> cases b <;> rfl : ∀ a b : Bool, (a == b) = (!(a != b))) _ _)), H', ⟨by have := HJ7.out; have := HK2.out; omega⟩, ⟨by (with_reducible repeat (first | apply Kd.S_alloc | apply Kd.S_drewN | apply Kd.S_drew)); exact HO_4.out⟩, ⟨by (with_reducible repeat (first | apply Kd.R_alloc | apply Kd.R_drewN | apply Kd.R_drew)); exact HO_5.out⟩, ⟨by repeat (first | (with_reducible first | exact HB.out | apply below_alloc | apply pw_below_drewN | apply below_drew1) | exact HB.out)⟩⟩
                        · rw [if_neg c30] at H
                          exact absurd H (by simp)
                      · rw [if_neg c29] at H
                        exact absurd H (by simp)
                    · rw [if_neg c28] at H
                      exact absurd H (by simp)
                  · rw [if_neg c27] at H
                    exact absurd H (by simp)
                · rw [if_neg c26] at H
                  have c26b0 : decide (x6_2 < (t119.length : Int)) = false := decide_eq_false c26
                  clear c26
                  obtain rfl := Option.some.inj H
                  obtain ⟨Ao35, co35, eo35⟩ := Kd.S_slice HO_4.out
                  subst eo35
                  go_wp2
                  repeat (go_quiet (fail); try go_wp2)
                  go_ret
                  exact ⟨by first | rfl | (simp [errW_none, errW_some] <;> rfl) | (simp [*, errW_none, errW_some] <;> rfl), by repeat (first | (with_reducible first | exact HB.out | apply below_alloc | apply pw_below_drewN | apply below_drew1) | exact HB.out)⟩
  · replace c3 := Bool.eq_false_iff.mpr c3
    subst c3
    have H1 : (none) = some r := by rw [if_neg (show ¬ (false = true) by decide)] at H; exact H
    clear H
    have H := H1
    clear H1
    exact absurd H (by simp)

/-- THE ONE PURE STATEMENT of seinelaw02_LinesSplit: yours. -/
def seinelaw02_LinesSplit.Pure : Prop := ∀ (l0 : List Int), l0.length ≤ maxLen → l0.length * 1 ≤ 140737488351232 → (∀ x ∈ l0, (Lit.int .u8 x).wf = true) → ∃ k, seinelaw02_LinesSplit.f k l0 = some true
theorem seinelaw02_LinesSplit.walk (P : seinelaw02_LinesSplit.Pure) (a0 : Option Addr) (len0 cap0 : Nat) (z0 : List Int) (w : World) (w0 : (a0 = none ∧ len0 = 0 ∧ cap0 = 0 ∧ z0 = []) ∨ ∃ x, a0 = some x ∧ len0 ≤ cap0 ∧ cap0 ≤ maxLen ∧ z0.length = cap0 ∧ (∀ i, i < z0.length → w.cell? (x.add i) = some (.int .u8 (z0.getD i 0))) ∧ ∀ n ∈ z0, (Lit.int .u8 n).wf = true) (y0 : len0 * 1 ≤ 140737488351232) :
    Calls Try.prog 3 #[.slice a0 len0 cap0] w fun e w' => e = .returned (.bool true) ∧ Below w.heap.size w w' := by
  obtain ⟨l0, rfl, hr0, hm0, hw0, hc0⟩ := ReadsInt.ofRowC w0
  obtain ⟨k, h⟩ := P l0 hm0 y0 hw0
  refine (seinelaw02_LinesSplit.calls k _ _ l0 true w (Kd.C_of_reads (d := (0 : Int)) (h1 := fun _ => rfl) hr0) hc0 h).mono ?_
  rintro e w' ⟨rfl, hd⟩
  exact ⟨rfl, hd⟩

end Go.Proofs.Ytccpobbebfgpbaa.PLinesSplit
