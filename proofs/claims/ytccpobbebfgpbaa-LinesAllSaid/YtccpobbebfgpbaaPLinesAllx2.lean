/- Functions of the translation and what they come to: laid by a program of this session (xprint.py) beside contracts proved by hand. No condition. -/
import Derived.Test.YtccpobbebfgpbaaPLinesAllx0
import Derived.Test.YtccpobbebfgpbaaPLinesAllx1
namespace Go.Proofs.Ytccpobbebfgpbaa.PLinesAll
open Go.RowKit Go.Proofs.YtccpobbebfgpbaaW.PrintWords Go.Proofs.YtccpobbebfgpbaaW.PrintLast Go.Proofs.YtccpobbebfgpbaaW.PrintMore
attribute [local go_sem] max2_int min2_int max_two min_two max_three min_three max_four min_four   -- for this text's walks alone
set_option linter.unusedVariables false
set_option linter.unusedSimpArgs false

theorem const_reads (w : World) (xs : List Int) (e : TypeId) (fr : Nat × Nat) (hm : xs.length ≤ 9223372036854775807) :
    Kd.C (Kd.int .u8) (w.alloc (.cells (xs.map (Value.int .u8)).toArray e fr)) (some ⟨w.heap.size, 0, none⟩) xs.length xs := by
  refine Kd.C_of_reads (d := (0 : Int)) (h1 := fun _ => rfl) ⟨rfl, hm, fun _ => ⟨_, rfl, fun j hj => ?_⟩⟩
  rw [add_plain, World.cell?_alloc_mark]
  simp [List.getD_eq_getElem?_getD, List.getElem?_eq_getElem hj]
def wa0 : List Int := [97, 10, 10, 98]
def wa1 : List Int := [97, 10]
def wa2 : List Int := [97, 10, 98]
def wa3 : List Int := [97]
def wl0 : List S31 := [⟨0, [97], true⟩, ⟨2, [], true⟩, ⟨3, [98], false⟩]
set_option maxHeartbeats 8000000 in
set_option maxRecDepth 100000 in
theorem awake_calls (w : World) :
    Calls Try.prog 9 #[] w fun e w' => e = .returned (.bool true) ∧ Below w.heap.size w w' := by
  have hu31 := Try.underlying31
  have kc := fun (w : World) (C : Array Value) (n c : Nat) => Lib.run_convert_bytes_const (P := Try.prog) w 22 5 C n c Try.underlying22 Try.underlying5
  have kc1 := kc w #[.int .u8 97, .int .u8 10, .int .u8 10, .int .u8 98] 4 4
  have HS := Aside0.mk (lines_Split.calls (some ⟨w.heap.size, 0, none⟩) 4 wa0 wl0 (w.alloc (.cells (wa0.map (Value.int .u8)).toArray 5 (4, 5))) (const_reads w wa0 5 (4, 5) (by decide)) (by decide) (by unfold lines_Split.f; rw [if_pos (by decide)]; rfl))
  have HB0 := Aside0.mk (below_alloc (Below.refl w.heap.size w) (.cells (wa0.map (Value.int .u8)).toArray 5 (4, 5)))
  go_enter Try.func9, Try.ntmps9
  go_wp2_with fail
  refine HS.out.mono ?_
  rintro e w1 ⟨v1, rfl, hs1, hb1⟩
  have hr1 := Kd.S_R hs1
  clear hs1
  obtain ⟨g, cap, rfl, _⟩ := Kd.R_form hr1 (by decide)
  obtain ⟨_, _, hC1⟩ := Kd.R_reads' hr1
  obtain ⟨ad0, A0, c0, e0, p0, p1, p2, p3, p4⟩ := at_T31 hC1 0 (by decide) (by decide)
  obtain ⟨ad1, A1, c1, e1, q0, q1, q2, q3, q4⟩ := at_T31 hC1 1 (by decide) (by decide)
  obtain ⟨ad2, A2, c2, e2, r0, r1, r2, r3, r4⟩ := at_T31 hC1 2 (by decide) (by decide)
  cases e0
  cases e1
  cases e2
  have s0 := Kd.C_string (P := Try.prog) (A := A0) (c := c0) Try.underlying22 Try.underlying5 Try.underlying9 p4
  have d0 : rd_T31 wl0 0 = ⟨0, [97], true⟩ := rfl
  have d1 : rd_T31 wl0 1 = ⟨2, [], true⟩ := rfl
  have d2 : rd_T31 wl0 2 = ⟨3, [98], false⟩ := rfl
  rw [d0] at p0 p1 p2 p3 p4 s0
  rw [d1] at q0 q1 q2 q3 q4
  rw [d2] at r0 r1 r2 r3 r4
  simp [Addr.add] at p0 p1 p2 q0 q1 q2 r0 r1 r2
  have hss : strOfNums [97] = ⟨#[97]⟩ := by decide +kernel
  rw [hss] at s0
  have s0' : (convert 22 9 (.slice A0 1 c0)).run Try.prog w1 = .ok (.string ⟨#[97]⟩) w1 := s0
  clear s0
  have HB1 := Aside0.mk (below_step HB0.out hb1)
  clear hr1 hC1 hb1 p4 q4 r4 p3 q3 r3 kc1 HS HB0
  have kc2 := kc w1 #[.int .u8 97, .int .u8 10] 2 2
  go_wp2_with fail
  refine (lines_Count.calls 20 (some ⟨w1.heap.size, 0, none⟩) 2 wa1 1 (w1.alloc (.cells (wa1.map (Value.int .u8)).toArray 5 (2, 3))) (const_reads w1 wa1 5 (2, 3) (by decide)) (by decide) (by decide +kernel)).mono ?_
  rintro e w2 ⟨rfl, hd⟩
  have HB2 := Aside0.mk (below_step (below_alloc HB1.out (.cells (wa1.map (Value.int .u8)).toArray 5 (2, 3))) hd.below)
  clear hd kc2 s0' p0 p1 p2 q0 q1 q2 r0 r1 r2
  have kc3 := kc w2 #[.int .u8 97, .int .u8 10, .int .u8 98] 3 3
  go_wp2_with fail
  refine (lines_Bare.calls 20 (some ⟨w2.heap.size, 0, none⟩) 3 wa2 2 (w2.alloc (.cells (wa2.map (Value.int .u8)).toArray 5 (3, 4))) (const_reads w2 wa2 5 (3, 4) (by decide)) (by decide) (by decide +kernel)).mono ?_
  rintro e w3 ⟨rfl, hd⟩
  have HB3 := Aside0.mk (below_step (below_alloc HB2.out (.cells (wa2.map (Value.int .u8)).toArray 5 (3, 4))) hd.below)
  clear hd kc3
  have kc4 := kc w3 #[.int .u8 97] 1 1
  have hC4 := const_reads w3 wa3 5 (1, 2) (by decide)
  have hJ : Kd.C (Kd.slice 5 (Kd.int .u8)) ((w3.alloc (.cells (wa3.map (Value.int .u8)).toArray 5 (1, 2))).alloc (.cells #[.slice (some ⟨w3.heap.size, 0, none⟩) 1 1, .slice none 0 0] 22)) (some ⟨w3.heap.size + 1, 0, none⟩) 2 [wa3, []] := by
    refine ⟨rfl, by decide, fun _ => ⟨_, rfl, fun j p hj => ?_⟩⟩
    have hb := blk_new (w3.alloc (.cells (wa3.map (Value.int .u8)).toArray 5 (1, 2))) (.cells #[.slice (some ⟨w3.heap.size, 0, none⟩) 1 1, .slice none 0 0] 22)
    rw [World.size_alloc] at hb
    have h0 := (blk_cell hb 0)
    have h1 := (blk_cell hb 1)
    match j, hj with
    | 0, hj =>
      cases hj
      exact ⟨[.slice (some ⟨w3.heap.size, 0, none⟩) 1 1], rfl, ⟨_, _, rfl, by decide, Kd.C_alloc hC4 _⟩, fun i u hu => by
        match i, hu with
        | 0, hu => cases hu; exact h0⟩
    | 1, hj =>
      cases hj
      exact ⟨[.slice none 0 0], rfl, ⟨_, _, rfl, by decide, Kd.C_nil _ _⟩, fun i u hu => by
        match i, hu with
        | 0, hu => cases hu; exact h1⟩
  have HJ := Aside0.mk (lines_Join.calls 20 (some ⟨w3.heap.size + 1, 0, none⟩) 2 [wa3, []] [97, 10, 10] _ hJ (by decide) (by decide +kernel))
  have HBJ := Aside0.mk (below_alloc (below_alloc HB3.out (.cells (wa3.map (Value.int .u8)).toArray 5 (1, 2))) (.cells #[.slice (some ⟨w3.heap.size, 0, none⟩) 1 1, .slice none 0 0] 22))
  clear hJ hC4
  go_wp2_with fail
  refine HJ.out.mono ?_
  rintro e w4 ⟨v4, rfl, hr4, hb4⟩
  obtain ⟨A4, c4, rfl, hd4, hC4⟩ := Kd.R_reads hr4
  have hcv := Kd.C_string (P := Try.prog) (A := A4) (c := c4) Try.underlying22 Try.underlying5 Try.underlying9 hC4
  have hss : strOfNums [97, 10, 10] = ⟨#[97, 10, 10]⟩ := by decide +kernel
  rw [hss] at hcv
  have hcv' : (convert 22 9 (.slice A4 3 c4)).run Try.prog w4 = .ok (.string ⟨#[97, 10, 10]⟩) w4 := hcv
  have HB4 := Aside0.mk (below_step HBJ.out hb4)
  clear hcv hss hr4 hb4 hC4 hd4 kc4 HJ HBJ
  go_wp2
  go_ret
  exact ⟨rfl, HB4.out⟩
def seinelaw02_awake.f : Option Bool := some true
theorem seinelaw02_awake.calls (r : Bool) (w : World) (h : seinelaw02_awake.f = some r) :
    Calls Try.prog 9 #[] w fun e w' => e = .returned (.bool r) ∧ Below w.heap.size w w' := by
  obtain rfl := Option.some.inj h
  exact awake_calls w

/-! ### seinelaw02_same: function 16 -/
def seinelaw02_same.l0 : Nat → List (S31) → List (S31) → Int → Int → Option (Bool)
  | 0, _, _, _, _ => none
  | k + 1, x0, x1, x2, x7 => if x7 < (x0.length : Int) then (if 0 ≤ x7 then (if x7 < (x1.length : Int) then (if ((rd_T31 x0 x7).f0) = (wrap64 (((rd_T31 x1 x7).f0) + x2)) then (if (strOfNums ((rd_T31 x0 x7).f1)).toList = (strOfNums ((rd_T31 x1 x7).f1)).toList then (if (((rd_T31 x0 x7).f2) != ((rd_T31 x1 x7).f2)) = true then (some false) else (seinelaw02_same.l0 k x0 x1 x2 (wrap64 (x7 + 1)))) else (some false)) else (some false)) else (none)) else (none)) else (some true)
def seinelaw02_same.f (k : Nat) (l0 : List (S31)) (l1 : List (S31)) (a2 : Int) : Option (Bool) := if (l0.length : Int) = (l1.length : Int) then (seinelaw02_same.l0 k l0 l1 a2 0) else (some false)
theorem seinelaw02_same.mono_l : ∀ k, (∀ y0 y1 y2 y3, LeO (seinelaw02_same.l0 k y0 y1 y2 y3) (seinelaw02_same.l0 (k + 1) y0 y1 y2 y3))
  | 0 => fun _ _ _ _ r h => by simp [seinelaw02_same.l0] at h
  | k + 1 => by
    have ih0 := seinelaw02_same.mono_l k
    · intro y0 y1 y2 y3
      unfold seinelaw02_same.l0
      repeat' first
      | (with_reducible exact ih0 _ _ _ _)
      | (with_reducible exact LeO.refl _)
      | (with_reducible exact LeO.none _)
      | (with_reducible refine LeO.ite ?_ ?_)
      | (with_reducible refine LeO.bind ?_ (fun _ => ?_))
      | exact ih0 _ _ _ _
      | exact LeO.none _
      | refine LeO.ite ?_ ?_
      | refine LeO.bind ?_ (fun _ => ?_)
theorem seinelaw02_same.mono : ∀ a0 a1 a2 k, LeO (seinelaw02_same.f k a0 a1 a2) (seinelaw02_same.f (k + 1) a0 a1 a2) := by
  intro a0 a1 a2 k
  have ih0 := seinelaw02_same.mono_l k
  unfold seinelaw02_same.f
  repeat' first
      | (with_reducible exact ih0 _ _ _ _)
      | (with_reducible exact LeO.refl _)
      | (with_reducible exact LeO.none _)
      | (with_reducible refine LeO.ite ?_ ?_)
      | (with_reducible refine LeO.bind ?_ (fun _ => ?_))
      | exact ih0 _ _ _ _
      | exact LeO.none _
      | refine LeO.ite ?_ ?_
      | refine LeO.bind ?_ (fun _ => ?_)
set_option maxHeartbeats 8000000 in
set_option maxRecDepth 100000 in
theorem seinelaw02_same.calls (k : Nat) (A0 : Option Addr) (c0 : Nat) (l0 : List (S31)) (A1 : Option Addr) (c1 : Nat) (l1 : List (S31)) (a2 : Int) (r : Bool) (w : World) (hr0 : Kd.C k31 w A0 l0.length l0) (hc0 : l0.length ≤ c0) (hr1 : Kd.C k31 w A1 l1.length l1) (hc1 : l1.length ≤ c1) (h : seinelaw02_same.f k l0 l1 a2 = some r) :
    Calls Try.prog 16 #[.slice A0 l0.length c0, .slice A1 l1.length c1, .int .i64 a2] w fun e w' => e = .returned (.bool r) ∧ Drawn0 w w' := by
  have HR0 := Aside0.mk hr0
  have HC0 := Aside0.mk hc0
  clear hr0 hc0
  have HR1 := Aside0.mk hr1
  have HC1 := Aside0.mk hc1
  clear hr1 hc1
  have H : (if (l0.length : Int) = (l1.length : Int) then (seinelaw02_same.l0 k l0 l1 a2 0) else (some false)) = some r := h
  clear h
  by_cases c4 : (l0.length : Int) = (l1.length : Int)
  · rw [if_pos c4] at H
    have c4b0 : ((l0.length : Int) == (l1.length : Int)) = true := beq_iff_eq.mpr c4
    have c4b1 : ((l0.length : Int) != (l1.length : Int)) = false := bne_eq_false_iff_eq.mpr c4
    have c4b2 : (l0.length == l1.length) = true := by first | simpa using c4 | (simp at c4 ⊢; omega)
    clear c4
    have H' := Aside0.mk H
    clear H
    go_enter Try.func16, Try.ntmps16
    go_wp2
    repeat (go_quiet (fail); try go_wp2)
    go_loopg [7] k (fun kq v7 w' => ∃ (x7_1 : Int), v7 = .int .i64 x7_1 ∧ Aside0 (seinelaw02_same.l0 kq l0 l1 a2 x7_1 = some r) ∧ Aside0 (kq ≤ k) ∧ Drawn0 w w')
    case atStart => exact ⟨(0), (by first | rfl | (simp; done) | (simp [*]; done) | (simp; exact (by intro a b; cases a <;> cases b <;> rfl : ∀ a b : Bool, (a == b) = (!(a != b))) _ _)), H', ⟨Nat.le_refl _⟩, by repeat (first | exact Drawn0.refl _ | apply Drawn0.step)⟩
    case round =>
      clear H'
      try clear c1
      try clear p2
      try clear c4
      try clear c4b0
      try clear c4b1
      try clear c4b2
      obtain ⟨x7_1, rfl, HA, HK1, ⟨m1, rfl⟩⟩ := hrel
      cases gk with
      | zero => exact absurd HA.out (by simp [seinelaw02_same.l0])
      | succ k1 =>
        have H := HA.out
        clear HA
        simp only [seinelaw02_same.l0] at H
        by_cases c5 : x7_1 < (l0.length : Int)
        · rw [if_pos c5] at H
          have c5b0 : decide (x7_1 < (l0.length : Int)) = true := decide_eq_true c5
          clear c5
          by_cases c6 : 0 ≤ x7_1
          · rw [if_pos c6] at H
            have c6b0 : decide (0 ≤ x7_1) = true := decide_eq_true c6
            clear c6
            by_cases c7 : x7_1 < (l1.length : Int)
            · rw [if_pos c7] at H
              have c7b0 : decide (x7_1 < (l1.length : Int)) = true := decide_eq_true c7
              clear c7
              by_cases c8 : ((rd_T31 l0 x7_1).f0) = (wrap64 (((rd_T31 l1 x7_1).f0) + a2))
              · rw [if_pos c8] at H
                have c8b0 : (((rd_T31 l0 x7_1).f0) == (wrap64 (((rd_T31 l1 x7_1).f0) + a2))) = true := beq_iff_eq.mpr c8
                have c8b1 : (((rd_T31 l0 x7_1).f0) != (wrap64 (((rd_T31 l1 x7_1).f0) + a2))) = false := bne_eq_false_iff_eq.mpr c8
                clear c8
                by_cases c9 : (strOfNums ((rd_T31 l0 x7_1).f1)).toList = (strOfNums ((rd_T31 l1 x7_1).f1)).toList
                · rw [if_pos c9] at H
                  have c9b0 : ((strOfNums ((rd_T31 l0 x7_1).f1)).toList == (strOfNums ((rd_T31 l1 x7_1).f1)).toList) = true := beq_iff_eq.mpr c9
                  have c9b1 : ((strOfNums ((rd_T31 l0 x7_1).f1)).toList != (strOfNums ((rd_T31 l1 x7_1).f1)).toList) = false := bne_eq_false_iff_eq.mpr c9
                  clear c9
                  by_cases c10 : (((rd_T31 l0 x7_1).f2) != ((rd_T31 l1 x7_1).f2)) = true
                  · rw [if_pos c10] at H
                    have c10b0 : (((rd_T31 l0 x7_1).f2) != ((rd_T31 l1 x7_1).f2)) = true := c10
                    (try (have c10b1 : decide (((rd_T31 l0 x7_1).f2) = ((rd_T31 l1 x7_1).f2)) = false := by simpa using c10))
                    (try (have c10b2 : (((rd_T31 l0 x7_1).f2) == ((rd_T31 l1 x7_1).f2)) = false := by simpa using c10))
                    (try (have c10b3 : ¬ (((rd_T31 l0 x7_1).f2) = ((rd_T31 l1 x7_1).f2)) := by simpa using c10))
                    clear c10
                    obtain rfl := Option.some.inj H
                    have p112 : 0 ≤ (x7_1 : Int) := of_decide_eq_true (by first | (with_reducible assumption) | assumption)
                    have q112 : x7_1 < (l0.length : Int) := of_decide_eq_true (by first | (with_reducible assumption) | assumption)
                    obtain ⟨ad112, A112_1, c112_1, e112, hx112_0, hx112_1, hx112_2, hl112_1, hi112_1⟩ := at_T31 HR0.out x7_1 p112 q112
                    cases e112
                    have HR112_1 := Aside0.mk hi112_1
                    have HC112_1 := Aside0.mk hl112_1
                    clear hi112_1 hl112_1
                    replace p112 := eq_true p112
                    replace q112 := eq_true q112
                    have p113 : 0 ≤ (x7_1 : Int) := of_decide_eq_true (by first | (with_reducible assumption) | assumption)
                    have q113 : x7_1 < (l1.length : Int) := of_decide_eq_true (by first | (with_reducible assumption) | assumption)
                    obtain ⟨ad113, A113_1, c113_1, e113, hx113_0, hx113_1, hx113_2, hl113_1, hi113_1⟩ := at_T31 HR1.out x7_1 p113 q113
                    cases e113
                    have HR113_1 := Aside0.mk hi113_1
                    have HC113_1 := Aside0.mk hl113_1
                    clear hi113_1 hl113_1
                    replace p113 := eq_true p113
                    replace q113 := eq_true q113
                    have p114 : 0 ≤ (x7_1 : Int) := of_decide_eq_true (by first | (with_reducible assumption) | assumption)
                    have q114 : x7_1 < (l0.length : Int) := of_decide_eq_true (by first | (with_reducible assumption) | assumption)
                    obtain ⟨ad114, A114_1, c114_1, e114, hx114_0, hx114_1, hx114_2, hl114_1, hi114_1⟩ := at_T31 HR0.out x7_1 p114 q114
                    obtain rfl : ad112 = ad114 := (by injection e114)
                    have HR114_1 := Aside0.mk hi114_1
                    have HC114_1 := Aside0.mk hl114_1
                    clear hi114_1 hl114_1
                    replace p114 := eq_true p114
                    replace q114 := eq_true q114
                    have ea_ := Option.some.inj (hx112_1.symm.trans hx114_1)
                    injection ea_ with ea_ en_ ec_
                    subst ea_
                    subst ec_
                    clear en_
                    have hcv11 := Kd.C_string (P := Try.prog) (A := A112_1) (c := c112_1) Try.underlying22 Try.underlying5 Try.underlying9 HR114_1.out
                    have hcvq11 := fun m => Kd.C_string (P := Try.prog) (A := A112_1) (c := c112_1) Try.underlying22 Try.underlying5 Try.underlying9 (Kd.C_drewN HR114_1.out m)
                    have p115 : 0 ≤ (x7_1 : Int) := of_decide_eq_true (by first | (with_reducible assumption) | assumption)
                    have q115 : x7_1 < (l1.length : Int) := of_decide_eq_true (by first | (with_reducible assumption) | assumption)
                    obtain ⟨ad115, A115_1, c115_1, e115, hx115_0, hx115_1, hx115_2, hl115_1, hi115_1⟩ := at_T31 HR1.out x7_1 p115 q115
                    obtain rfl : ad113 = ad115 := (by injection e115)
                    have HR115_1 := Aside0.mk hi115_1
                    have HC115_1 := Aside0.mk hl115_1
                    clear hi115_1 hl115_1
                    replace p115 := eq_true p115
                    replace q115 := eq_true q115
                    have ea_ := Option.some.inj (hx113_1.symm.trans hx115_1)
                    injection ea_ with ea_ en_ ec_
                    subst ea_
                    subst ec_
                    clear en_
                    have hcv12 := Kd.C_string (P := Try.prog) (A := A113_1) (c := c113_1) Try.underlying22 Try.underlying5 Try.underlying9 HR115_1.out
                    have hcvq12 := fun m => Kd.C_string (P := Try.prog) (A := A113_1) (c := c113_1) Try.underlying22 Try.underlying5 Try.underlying9 (Kd.C_drewN HR115_1.out m)
                    have p116 : 0 ≤ (x7_1 : Int) := of_decide_eq_true (by first | (with_reducible assumption) | assumption)
                    have q116 : x7_1 < (l0.length : Int) := of_decide_eq_true (by first | (with_reducible assumption) | assumption)
                    obtain ⟨ad116, A116_1, c116_1, e116, hx116_0, hx116_1, hx116_2, hl116_1, hi116_1⟩ := at_T31 HR0.out x7_1 p116 q116
                    obtain rfl : ad112 = ad116 := (by injection e116)
                    have HR116_1 := Aside0.mk hi116_1
                    have HC116_1 := Aside0.mk hl116_1
                    clear hi116_1 hl116_1
                    replace p116 := eq_true p116
                    replace q116 := eq_true q116
                    have ea_ := Option.some.inj (hx112_1.symm.trans hx116_1)
                    injection ea_ with ea_ en_ ec_
                    subst ea_
                    subst ec_
                    clear en_
                    have p117 : 0 ≤ (x7_1 : Int) := of_decide_eq_true (by first | (with_reducible assumption) | assumption)
                    have q117 : x7_1 < (l1.length : Int) := of_decide_eq_true (by first | (with_reducible assumption) | assumption)
                    obtain ⟨ad117, A117_1, c117_1, e117, hx117_0, hx117_1, hx117_2, hl117_1, hi117_1⟩ := at_T31 HR1.out x7_1 p117 q117
                    obtain rfl : ad113 = ad117 := (by injection e117)
                    have HR117_1 := Aside0.mk hi117_1
                    have HC117_1 := Aside0.mk hl117_1
                    clear hi117_1 hl117_1
                    replace p117 := eq_true p117
                    replace q117 := eq_true q117
                    have ea_ := Option.some.inj (hx113_1.symm.trans hx117_1)
                    injection ea_ with ea_ en_ ec_
                    subst ea_
                    subst ec_
                    clear en_
                    go_wp2
                    repeat (go_quiet (fail); try go_wp2)
                    go_ret
                    exact ⟨by first | rfl | (simp; done) | (simp [*]; done) | (simp; exact (by intro a b; cases a <;> cases b <;> rfl : ∀ a b : Bool, (a == b) = (!(a != b))) _ _), by repeat (first | exact Drawn0.refl _ | apply Drawn0.step)⟩
                  · rw [if_neg c10] at H
                    have c10b0 : (((rd_T31 l0 x7_1).f2) != ((rd_T31 l1 x7_1).f2)) = false := by simpa using c10
                    (try (have c10b1 : decide (((rd_T31 l0 x7_1).f2) = ((rd_T31 l1 x7_1).f2)) = true := by simpa using c10))
                    (try (have c10b2 : (((rd_T31 l0 x7_1).f2) == ((rd_T31 l1 x7_1).f2)) = true := by simpa using c10))
                    clear c10
                    have H' := Aside0.mk H
                    clear H
                    have p112 : 0 ≤ (x7_1 : Int) := of_decide_eq_true (by first | (with_reducible assumption) | assumption)
                    have q112 : x7_1 < (l0.length : Int) := of_decide_eq_true (by first | (with_reducible assumption) | assumption)
                    obtain ⟨ad112, A112_1, c112_1, e112, hx112_0, hx112_1, hx112_2, hl112_1, hi112_1⟩ := at_T31 HR0.out x7_1 p112 q112
                    cases e112
                    have HR112_1 := Aside0.mk hi112_1
                    have HC112_1 := Aside0.mk hl112_1
                    clear hi112_1 hl112_1
                    replace p112 := eq_true p112
                    replace q112 := eq_true q112
                    have p113 : 0 ≤ (x7_1 : Int) := of_decide_eq_true (by first | (with_reducible assumption) | assumption)
                    have q113 : x7_1 < (l1.length : Int) := of_decide_eq_true (by first | (with_reducible assumption) | assumption)
                    obtain ⟨ad113, A113_1, c113_1, e113, hx113_0, hx113_1, hx113_2, hl113_1, hi113_1⟩ := at_T31 HR1.out x7_1 p113 q113
                    cases e113
                    have HR113_1 := Aside0.mk hi113_1
                    have HC113_1 := Aside0.mk hl113_1
                    clear hi113_1 hl113_1
                    replace p113 := eq_true p113
                    replace q113 := eq_true q113
                    have p114 : 0 ≤ (x7_1 : Int) := of_decide_eq_true (by first | (with_reducible assumption) | assumption)
                    have q114 : x7_1 < (l0.length : Int) := of_decide_eq_true (by first | (with_reducible assumption) | assumption)
                    obtain ⟨ad114, A114_1, c114_1, e114, hx114_0, hx114_1, hx114_2, hl114_1, hi114_1⟩ := at_T31 HR0.out x7_1 p114 q114
                    obtain rfl : ad112 = ad114 := (by injection e114)
                    have HR114_1 := Aside0.mk hi114_1
                    have HC114_1 := Aside0.mk hl114_1
                    clear hi114_1 hl114_1
                    replace p114 := eq_true p114
                    replace q114 := eq_true q114
                    have ea_ := Option.some.inj (hx112_1.symm.trans hx114_1)
                    injection ea_ with ea_ en_ ec_
                    subst ea_
                    subst ec_
                    clear en_
                    have hcv13 := Kd.C_string (P := Try.prog) (A := A112_1) (c := c112_1) Try.underlying22 Try.underlying5 Try.underlying9 HR114_1.out
                    have hcvq13 := fun m => Kd.C_string (P := Try.prog) (A := A112_1) (c := c112_1) Try.underlying22 Try.underlying5 Try.underlying9 (Kd.C_drewN HR114_1.out m)
                    have p115 : 0 ≤ (x7_1 : Int) := of_decide_eq_true (by first | (with_reducible assumption) | assumption)
                    have q115 : x7_1 < (l1.length : Int) := of_decide_eq_true (by first | (with_reducible assumption) | assumption)
                    obtain ⟨ad115, A115_1, c115_1, e115, hx115_0, hx115_1, hx115_2, hl115_1, hi115_1⟩ := at_T31 HR1.out x7_1 p115 q115
                    obtain rfl : ad113 = ad115 := (by injection e115)
                    have HR115_1 := Aside0.mk hi115_1
                    have HC115_1 := Aside0.mk hl115_1
                    clear hi115_1 hl115_1
                    replace p115 := eq_true p115
                    replace q115 := eq_true q115
                    have ea_ := Option.some.inj (hx113_1.symm.trans hx115_1)
                    injection ea_ with ea_ en_ ec_
                    subst ea_
                    subst ec_
                    clear en_
                    have hcv14 := Kd.C_string (P := Try.prog) (A := A113_1) (c := c113_1) Try.underlying22 Try.underlying5 Try.underlying9 HR115_1.out
                    have hcvq14 := fun m => Kd.C_string (P := Try.prog) (A := A113_1) (c := c113_1) Try.underlying22 Try.underlying5 Try.underlying9 (Kd.C_drewN HR115_1.out m)
                    have p116 : 0 ≤ (x7_1 : Int) := of_decide_eq_true (by first | (with_reducible assumption) | assumption)
                    have q116 : x7_1 < (l0.length : Int) := of_decide_eq_true (by first | (with_reducible assumption) | assumption)
                    obtain ⟨ad116, A116_1, c116_1, e116, hx116_0, hx116_1, hx116_2, hl116_1, hi116_1⟩ := at_T31 HR0.out x7_1 p116 q116
                    obtain rfl : ad112 = ad116 := (by injection e116)
                    have HR116_1 := Aside0.mk hi116_1
                    have HC116_1 := Aside0.mk hl116_1
                    clear hi116_1 hl116_1
                    replace p116 := eq_true p116
                    replace q116 := eq_true q116
                    have ea_ := Option.some.inj (hx112_1.symm.trans hx116_1)
                    injection ea_ with ea_ en_ ec_
                    subst ea_
                    subst ec_
                    clear en_
                    have p117 : 0 ≤ (x7_1 : Int) := of_decide_eq_true (by first | (with_reducible assumption) | assumption)
                    have q117 : x7_1 < (l1.length : Int) := of_decide_eq_true (by first | (with_reducible assumption) | assumption)
                    obtain ⟨ad117, A117_1, c117_1, e117, hx117_0, hx117_1, hx117_2, hl117_1, hi117_1⟩ := at_T31 HR1.out x7_1 p117 q117
                    obtain rfl : ad113 = ad117 := (by injection e117)
                    have HR117_1 := Aside0.mk hi117_1
                    have HC117_1 := Aside0.mk hl117_1
                    clear hi117_1 hl117_1
                    replace p117 := eq_true p117
                    replace q117 := eq_true q117
                    have ea_ := Option.some.inj (hx113_1.symm.trans hx117_1)
                    injection ea_ with ea_ en_ ec_
                    subst ea_
                    subst ec_
                    clear en_
                    go_wp2
                    repeat (go_quiet (fail); try go_wp2)
                    go_roundg k1
                    case measure => have := HK1.out; omega
                    case rel => exact ⟨(wrap64 (x7_1 + 1)), (by first | rfl | (simp; done) | (simp [*]; done) | (simp; exact (by intro a b; cases a <;> cases b <;> rfl : ∀ a b : Bool, (a == b) = (!(a != b))) _ _)), H', ⟨by have := HK1.out; omega⟩, by repeat (first | exact Drawn0.refl _ | apply Drawn0.step)⟩
                · rw [if_neg c9] at H
                  have c9b0 : ((strOfNums ((rd_T31 l0 x7_1).f1)).toList == (strOfNums ((rd_T31 l1 x7_1).f1)).toList) = false := beq_eq_false_iff_ne.mpr c9
                  have c9b1 : ((strOfNums ((rd_T31 l0 x7_1).f1)).toList != (strOfNums ((rd_T31 l1 x7_1).f1)).toList) = true := bne_iff_ne.mpr c9
                  obtain rfl := Option.some.inj H
                  have p112 : 0 ≤ (x7_1 : Int) := of_decide_eq_true (by first | (with_reducible assumption) | assumption)
                  have q112 : x7_1 < (l0.length : Int) := of_decide_eq_true (by first | (with_reducible assumption) | assumption)
                  obtain ⟨ad112, A112_1, c112_1, e112, hx112_0, hx112_1, hx112_2, hl112_1, hi112_1⟩ := at_T31 HR0.out x7_1 p112 q112
                  cases e112
                  have HR112_1 := Aside0.mk hi112_1
                  have HC112_1 := Aside0.mk hl112_1
                  clear hi112_1 hl112_1
                  replace p112 := eq_true p112
                  replace q112 := eq_true q112
                  have p113 : 0 ≤ (x7_1 : Int) := of_decide_eq_true (by first | (with_reducible assumption) | assumption)
                  have q113 : x7_1 < (l1.length : Int) := of_decide_eq_true (by first | (with_reducible assumption) | assumption)
                  obtain ⟨ad113, A113_1, c113_1, e113, hx113_0, hx113_1, hx113_2, hl113_1, hi113_1⟩ := at_T31 HR1.out x7_1 p113 q113
                  cases e113
                  have HR113_1 := Aside0.mk hi113_1
                  have HC113_1 := Aside0.mk hl113_1
                  clear hi113_1 hl113_1
                  replace p113 := eq_true p113
                  replace q113 := eq_true q113
                  have p114 : 0 ≤ (x7_1 : Int) := of_decide_eq_true (by first | (with_reducible assumption) | assumption)
                  have q114 : x7_1 < (l0.length : Int) := of_decide_eq_true (by first | (with_reducible assumption) | assumption)
                  obtain ⟨ad114, A114_1, c114_1, e114, hx114_0, hx114_1, hx114_2, hl114_1, hi114_1⟩ := at_T31 HR0.out x7_1 p114 q114
                  obtain rfl : ad112 = ad114 := (by injection e114)
                  have HR114_1 := Aside0.mk hi114_1
                  have HC114_1 := Aside0.mk hl114_1
                  clear hi114_1 hl114_1
                  replace p114 := eq_true p114
                  replace q114 := eq_true q114
                  have ea_ := Option.some.inj (hx112_1.symm.trans hx114_1)
                  injection ea_ with ea_ en_ ec_
                  subst ea_
                  subst ec_
                  clear en_
                  have hcv15 := Kd.C_string (P := Try.prog) (A := A112_1) (c := c112_1) Try.underlying22 Try.underlying5 Try.underlying9 HR114_1.out
                  have hcvq15 := fun m => Kd.C_string (P := Try.prog) (A := A112_1) (c := c112_1) Try.underlying22 Try.underlying5 Try.underlying9 (Kd.C_drewN HR114_1.out m)
                  have p115 : 0 ≤ (x7_1 : Int) := of_decide_eq_true (by first | (with_reducible assumption) | assumption)
                  have q115 : x7_1 < (l1.length : Int) := of_decide_eq_true (by first | (with_reducible assumption) | assumption)
                  obtain ⟨ad115, A115_1, c115_1, e115, hx115_0, hx115_1, hx115_2, hl115_1, hi115_1⟩ := at_T31 HR1.out x7_1 p115 q115
                  obtain rfl : ad113 = ad115 := (by injection e115)
                  have HR115_1 := Aside0.mk hi115_1
                  have HC115_1 := Aside0.mk hl115_1
                  clear hi115_1 hl115_1
                  replace p115 := eq_true p115
                  replace q115 := eq_true q115
                  have ea_ := Option.some.inj (hx113_1.symm.trans hx115_1)
                  injection ea_ with ea_ en_ ec_
                  subst ea_
                  subst ec_
                  clear en_
                  have hcv16 := Kd.C_string (P := Try.prog) (A := A113_1) (c := c113_1) Try.underlying22 Try.underlying5 Try.underlying9 HR115_1.out
                  have hcvq16 := fun m => Kd.C_string (P := Try.prog) (A := A113_1) (c := c113_1) Try.underlying22 Try.underlying5 Try.underlying9 (Kd.C_drewN HR115_1.out m)
                  go_wp2
                  repeat (go_quiet (fail); try go_wp2)
                  go_ret
                  exact ⟨by first | rfl | (simp; done) | (simp [*]; done) | (simp; exact (by intro a b; cases a <;> cases b <;> rfl : ∀ a b : Bool, (a == b) = (!(a != b))) _ _), by repeat (first | exact Drawn0.refl _ | apply Drawn0.step)⟩
              · rw [if_neg c8] at H
                have c8b0 : (((rd_T31 l0 x7_1).f0) == (wrap64 (((rd_T31 l1 x7_1).f0) + a2))) = false := beq_eq_false_iff_ne.mpr c8
                have c8b1 : (((rd_T31 l0 x7_1).f0) != (wrap64 (((rd_T31 l1 x7_1).f0) + a2))) = true := bne_iff_ne.mpr c8
                obtain rfl := Option.some.inj H
                have p112 : 0 ≤ (x7_1 : Int) := of_decide_eq_true (by first | (with_reducible assumption) | assumption)
                have q112 : x7_1 < (l0.length : Int) := of_decide_eq_true (by first | (with_reducible assumption) | assumption)
                obtain ⟨ad112, A112_1, c112_1, e112, hx112_0, hx112_1, hx112_2, hl112_1, hi112_1⟩ := at_T31 HR0.out x7_1 p112 q112
                cases e112
                have HR112_1 := Aside0.mk hi112_1
                have HC112_1 := Aside0.mk hl112_1
                clear hi112_1 hl112_1
                replace p112 := eq_true p112
                replace q112 := eq_true q112
                have p113 : 0 ≤ (x7_1 : Int) := of_decide_eq_true (by first | (with_reducible assumption) | assumption)
                have q113 : x7_1 < (l1.length : Int) := of_decide_eq_true (by first | (with_reducible assumption) | assumption)
                obtain ⟨ad113, A113_1, c113_1, e113, hx113_0, hx113_1, hx113_2, hl113_1, hi113_1⟩ := at_T31 HR1.out x7_1 p113 q113
                cases e113
                have HR113_1 := Aside0.mk hi113_1
                have HC113_1 := Aside0.mk hl113_1
                clear hi113_1 hl113_1
                replace p113 := eq_true p113
                replace q113 := eq_true q113
                go_wp2
                repeat (go_quiet (fail); try go_wp2)
                go_ret
                exact ⟨by first | rfl | (simp; done) | (simp [*]; done) | (simp; exact (by intro a b; cases a <;> cases b <;> rfl : ∀ a b : Bool, (a == b) = (!(a != b))) _ _), by repeat (first | exact Drawn0.refl _ | apply Drawn0.step)⟩
            · rw [if_neg c7] at H
              exact absurd H (by simp)
          · rw [if_neg c6] at H
            exact absurd H (by simp)
        · rw [if_neg c5] at H
          have c5b0 : decide (x7_1 < (l0.length : Int)) = false := decide_eq_false c5
          clear c5
          obtain rfl := Option.some.inj H
          go_wp2
          repeat (go_quiet (fail); try go_wp2)
          go_ret
          exact ⟨by first | rfl | (simp; done) | (simp [*]; done) | (simp; exact (by intro a b; cases a <;> cases b <;> rfl : ∀ a b : Bool, (a == b) = (!(a != b))) _ _), by repeat (first | exact Drawn0.refl _ | apply Drawn0.step)⟩
  · rw [if_neg c4] at H
    have c4b0 : ((l0.length : Int) == (l1.length : Int)) = false := beq_eq_false_iff_ne.mpr c4
    have c4b1 : ((l0.length : Int) != (l1.length : Int)) = true := bne_iff_ne.mpr c4
    have c4b2 : (l0.length == l1.length) = false := by first | simpa using c4 | (simp at c4 ⊢; omega)
    obtain rfl := Option.some.inj H
    go_enter Try.func16, Try.ntmps16
    go_wp2
    repeat (go_quiet (fail); try go_wp2)
    go_ret
    exact ⟨by first | rfl | (simp; done) | (simp [*]; done) | (simp; exact (by intro a b; cases a <;> cases b <;> rfl : ∀ a b : Bool, (a == b) = (!(a != b))) _ _), by repeat (first | exact Drawn0.refl _ | apply Drawn0.step)⟩

theorem up_offs' : ∀ (l : List Int) (off : Int) (cur : List Int), 0 ≤ off → ∀ x ∈ linesUp l off cur, off ≤ x.f0 ∧ x.f0 ≤ off + cur.length + l.length
  | [], off, cur, h, x, hx => by
    unfold linesUp at hx
    split at hx
    · cases hx
    · rw [List.mem_singleton] at hx; subst hx; refine ⟨?_, ?_⟩ <;> simp <;> omega
  | c :: l, off, cur, h, x, hx => by
    rw [linesUp_cons] at hx
    by_cases e : c = 10
    · rw [if_pos e] at hx
      rcases List.mem_cons.mp hx with hx | hx
      · subst hx; simp; omega
      · have := up_offs' l (off + cur.length + 1) [] (by omega) x hx
        simp at this ⊢; omega
    · rw [if_neg e] at hx
      have := up_offs' l off (cur ++ [c]) h x hx
      simp at this ⊢; omega
theorem same_up (ys : List S31) (hl : ys.length ≤ 100000) (hb : ∀ y ∈ ys, 0 ≤ y.f0 ∧ y.f0 ≤ 100000) (e : Nat) : ∀ n : Nat, n + e = ys.length →
    ∃ k, seinelaw02_same.l0 k ys ys 0 (n : Int) = some true := by
  induction e with
  | zero =>
    intro n hn
    exact ⟨1, by simp only [seinelaw02_same.l0, if_neg (show ¬ (n : Int) < (ys.length : Int) by omega)]⟩
  | succ e ih =>
    intro n hn
    obtain ⟨k, hk⟩ := ih (n + 1) (by omega)
    have h2 : rd_T31 ys (n : Int) = ys[n]'(by omega) := by
      unfold rd_T31; rw [Int.toNat_natCast, List.getD_eq_getElem?_getD, List.getElem?_eq_getElem (show n < ys.length by omega)]; rfl
    have h3 := hb (ys[n]'(by omega)) (List.getElem_mem _)
    have h4 : wrap64 ((ys[n]'(by omega)).f0 + 0) = (ys[n]'(by omega)).f0 := by unfold wrap64; omega
    have h5 : wrap64 ((n : Int) + 1) = ((n + 1 : Nat) : Int) := by unfold wrap64; omega
    refine ⟨k + 1, ?_⟩
    simp only [seinelaw02_same.l0, if_pos (show (n : Int) < (ys.length : Int) by omega), if_pos (show (0 : Int) ≤ (n : Int) by omega), h2, h4, h5, if_true, bne_self_eq_false, Bool.false_eq_true, if_false]
    exact hk
theorem same_take (l : List Int) (hl : l.length ≤ 1000) (m : Nat) : ∃ k, seinelaw02_same.f k ((linesUp l 0 []).take m) ((linesUp l 0 []).take m) 0 = some true := by
  have h1 := linesUp_len l 0 []
  have h2 : ((linesUp l 0 []).take m).length ≤ 100000 := by rw [List.length_take]; simp at h1; omega
  obtain ⟨k, hk⟩ := same_up ((linesUp l 0 []).take m) h2 (fun y hy => by
    have := up_offs' l 0 [] (by omega) y (List.mem_of_mem_take hy)
    simp at this; omega) _ 0 (Nat.zero_add _)
  exact ⟨k, by unfold seinelaw02_same.f; rw [if_pos rfl]; exact hk⟩
theorem same_call (m : Nat) (w : World) (k : Nat) (A : Option Addr) (n c : Nat) (l : List S31) (A1 : Option Addr) (n1 c1 : Nat) (hn : l.length = n) (hr : Kd.C k31 w A n l) (hc : n ≤ c) (hn1 : l.length = n1) (hr1 : Kd.C k31 w A1 n1 l) (hc1 : n1 ≤ c1) (h : seinelaw02_same.f k l l 0 = some true) :
    CallsIn Fence.wide m Try.prog 16 #[.slice A n c, .slice A1 n1 c1, .int .i64 0] w fun e w' => e = .returned (.bool true) ∧ Drawn0 w w' := by
  subst hn
  subst hn1
  exact callsIn_wide.2 (seinelaw02_same.calls k A c l A1 c1 l 0 true w hr hc hr1 hc1 h)
section
attribute [local go_sem] Oper.semAt_some
set_option maxHeartbeats 8000000 in
set_option maxRecDepth 100000 in
theorem law_all (A0 : Option Addr) (c0 : Nat) (l0 : List Int) (q : Nat) (w : World) (hr0 : Kd.C (Kd.int .u8) w A0 l0.length l0) (hc0 : l0.length ≤ c0) (ha1 : q ≤ 255) :
    Calls Try.prog 4 #[.slice A0 l0.length c0, .int .u8 (q : Int)] w fun e w' => e = .returned (.bool true) ∧ Below w.heap.size w w' := by
  refine (callsIn_wide (n := 4)).1 ?_
  refine callsIn_of_wp_marks Try.func4 rfl trivial ?_ rfl
  simp only [Try.ntmps4, List.size_toArray, List.length_cons, List.length_nil, Nat.reduceAdd, Nat.reduceSub, Array.replicate_succ, Array.replicate_zero, List.push_toArray, List.append_toArray, List.nil_append, List.cons_append]
  by_cases hl : (l0.length : Int) > 1000
  · have d1 : decide ((l0.length : Int) > 1000) = true := decide_eq_true hl
    have f9 : Fence.wide.fn 9 := trivial
    gi_wp2_with (gi_at_call 9; refine (callsIn_wide.2 (seinelaw02_awake.calls true _ rfl)).mono ?_; rintro e w1 ⟨rfl, hb1⟩)
    exact ⟨_, results_tmp rfl _ _ _, rfl, below_step (below_alloc (Below.refl _ w) _) hb1⟩
  · have d1 : decide ((l0.length : Int) > 1000) = false := decide_eq_false hl
    have f9 : Fence.wide.fn 9 := trivial
    have f15 : Fence.wide.fn 15 := trivial
    have hN0 := blk_new w (.cells #[.int .u8 (q : Int)] 5)
    gi_wp2_with (gi_at_call 9; refine (callsIn_wide.2 (seinelaw02_awake.calls true _ rfl)).mono ?_; rintro e w1 ⟨rfl, hb1⟩)
    have hB1 : Below w.heap.size w w1 := below_step (below_alloc (Below.refl _ w) _) hb1
    have hN1 := blk_below hN0 hb1
    refine ⟨trivial, (callsIn_wide.2 (lines_Split.calls A0 c0 l0 (linesUp l0 0 []) w1 (Kd.C_below hr0 hB1) hc0 (by unfold lines_Split.f; rw [if_pos (by omega)]))).mono ?_⟩
    rintro e w3 ⟨vl, rfl, hS, hb3⟩
    obtain ⟨Al, cl, hvl⟩ := Kd.S_slice hS
    subst hvl
    obtain ⟨_, hcl, hC3⟩ := Kd.S_reads' hS
    have hB3 : Below w.heap.size w w3 := below_step hB1 hb3
    have hN3 := blk_below hN1 hb3
    have HT3 := Kd.C_below hr0 hB3
    clear hS hb3 hb1 hN1 hN0
    gi_wp2_with (gi_at_call 15; refine (all_call _ _ _ _ _).mono ?_; rintro e w' ⟨rfl, rfl⟩)
    have hO := blk_alloc (blk_new w3 (.cells #[.slice none 0 0] 24)) (.cells #[.slice A0 l0.length c0] 22)
    have hT := blk_new (w3.alloc (.cells #[.slice none 0 0] 24)) (.cells #[.slice A0 l0.length c0] 22)
    rw [World.size_alloc] at hT
    have hB0 : Below w3.heap.size w3 ((w3.alloc (.cells #[.slice none 0 0] 24)).alloc (.cells #[.slice A0 l0.length c0] 22)) := Seq.below_alloc2 w3 _ _
    have hsz : ((w3.alloc (.cells #[.slice none 0 0] 24)).alloc (.cells #[.slice A0 l0.length c0] 22)).heap.size = w3.heap.size + 2 := by simp
    generalize (w3.alloc (.cells #[.slice none 0 0] 24)).alloc (.cells #[.slice A0 l0.length c0] 22) = W0 at hO hT hB0 hsz ⊢
    refine Seq.wpIn_told rfl (by decide : 1 ≤ 4) (gf := 18) (lb := #[.pointer (some ⟨w3.heap.size + 1, 0, none⟩)]) rfl trivial (enters_of Try.func18 (by kernel_rfl) rfl)
      (all_told 3 (by decide) (w3.heap.size + 1) w3.heap.size A0 c0 l0 (by omega) hc0 _) (fun _ => rfl)
      (fun pre W => pre.length ≤ q ∧ (∃ v, W.heap[w3.heap.size]? = some (.cells #[v] 24 (0, 0)) ∧ Kd.S k31 31 W w3.heap.size (fun _ => True) v (pre.map LV.x)) ∧ W.heap[w3.heap.size + 1]? = some (.cells #[.slice A0 l0.length c0] 22 (0, 0)) ∧ Below w3.heap.size w3 W)
      (fun B pre W => pre.length ≤ q ∧ (∃ v, W.heap[w3.heap.size]? = some (.cells #[v] 24 (0, 0)) ∧ Kd.S k31 31 W w3.heap.size (fun k => k < B) v (pre.map LV.x)) ∧ W.heap[w3.heap.size + 1]? = some (.cells #[.slice A0 l0.length c0] 22 (0, 0)) ∧ Below w3.heap.size w3 W)
      (fun c pre W => (c = .exit 0 ∧ pre.length = q + 1) ∧ (∃ v, W.heap[w3.heap.size]? = some (.cells #[v] 24 (0, 0)) ∧ Kd.S k31 31 W w3.heap.size (fun _ => True) v (pre.map LV.x)) ∧ W.heap[w3.heap.size + 1]? = some (.cells #[.slice A0 l0.length c0] 22 (0, 0)) ∧ Below w3.heap.size w3 W)
      (fun y a' W => ∃ Bx, W.heap[Bx]? = some (.cells #[.int .i64 y.x.f0, y.v, .bool y.x.f2] 31 (0, 0)) ∧ a' = { tmps := #[.slice A0 l0.length c0, .int .u8 (q : Int), undef, .pointer (some ⟨w.heap.size, 0, none⟩), .bool false, .bool true, .slice Al (linesUp l0 0 []).length cl, .pointer (some ⟨w3.heap.size, 0, none⟩), .pointer (some ⟨Bx, 0, none⟩), undef, .bool true, .bool true, .bool false, .slice A0 l0.length c0, .int .i64 l0.length, .bool false, .slice A0 l0.length c0, .slice Al (linesUp l0 0 []).length cl, .slice A0 l0.length c0, .func (.func 18) #[] #[.pointer (some ⟨w3.heap.size + 1, 0, none⟩)], .agg #[.int .i64 y.x.f0, y.v, .bool y.x.f2], undef, undef, undef, undef, undef, undef, undef, undef, undef, undef, undef, undef, undef, undef, undef, undef, undef, undef, undef, undef], defers := [] })
      (fun s A B h hb => ⟨h.1, ⟨h.2.1.choose, blk_below h.2.1.choose_spec.1 hb, Kd.S_below h.2.1.choose_spec.2 hb⟩, blk_below h.2.2.1 hb, h.2.2.2.trans (hb.mono h.2.2.2.size)⟩)
      (fun s A l o o' h hl ha ho => ⟨h.1, ⟨h.2.1.choose, turns_blk h.2.1.choose_spec.1 ha ho, Seq.turns_S h.2.1.choose_spec.2 ha ho⟩, turns_blk h.2.2.1 ha ho, below_turn h.2.2.2 (by omega) ha⟩)
      (fun s A h => ⟨h.1, ⟨h.2.1.choose, h.2.1.choose_spec.1, Kd.S_mono (Kd.S_bound h.2.1.choose_spec.2) (fun k hk => hk.2.2.1)⟩, h.2.2⟩)
      (fun _ s A B h hb => ⟨h.1, ⟨h.2.1.choose, blk_below h.2.1.choose_spec.1 hb, Kd.S_below h.2.1.choose_spec.2 hb⟩, blk_below h.2.2.1 hb, h.2.2.2.trans (hb.mono h.2.2.2.size)⟩)
      (fun _ s A l o o' h hl ha ho => ⟨h.1, ⟨h.2.1.choose, turns_blk h.2.1.choose_spec.1 ha ho, Seq.turns_S h.2.1.choose_spec.2 ha ho⟩, turns_blk h.2.2.1 ha ho, below_turn h.2.2.2 (by omega) ha⟩)
      (fun c s A l o o' h hl ha ho => ⟨h.1, ⟨h.2.1.choose, turns_blk h.2.1.choose_spec.1 ha ho, Seq.turns_S h.2.1.choose_spec.2 ha ho⟩, turns_blk h.2.2.1 ha ho, below_turn h.2.2.2 (by omega) ha⟩)
      (fun _ y A B h hb => Kd.R_below h hb) (fun _ y A l o o' h _ ha ho => turns_R h ha ho)
      (fun a' y A l o o' h _ ha ho => ⟨h.choose, turns_blk h.choose_spec.1 ha ho, h.choose_spec.2⟩)
      (fun s A h => ⟨(blk_cell h.2.2.1 0).trans rfl, Kd.C_below HT3 h.2.2.2, h.2.2.2.size⟩)
      ⟨Nat.zero_le _, ⟨_, hO, Kd.S_nil _ _ _ _ _⟩, hT, hB0⟩ ?assign ?body ?done ?stop
    case assign =>
      rintro l B pre ⟨⟨f0, f1, f2⟩, v⟩ W K hI hG hK
      have hG1 : (Kd.int .u8).R 5 W w3.heap.size (fun k => B ≤ k) v f1 := hG
      clear hG
      obtain ⟨A, c, rfl⟩ := Kd.R_slice hG1
      dsimp only [LV.enc]
      gi_wp2
      exact hK _ _ (below_alloc (Below.refl _ W) _) ⟨_, blk_new W _, rfl⟩
    case body =>
      rintro l B pre ⟨⟨f0, f1, f2⟩, v⟩ a' W ⟨hpn, ⟨u, hU, hR⟩, hT1, hB⟩ hG ⟨Bx, hX, rfl⟩ hlt
      have hG1 : (Kd.int .u8).R 5 W w3.heap.size (fun k => B ≤ k) v f1 := hG
      clear hG
      obtain ⟨A, c, rfl⟩ := Kd.R_slice hG1
      have HR := Aside0.mk hR
      have HG := Aside0.mk hG1
      clear hR hG1
      have hNW := blk_below hN3 hB
      have he1 : (pre.map LV.x ++ [(⟨f0, f1, f2⟩ : S31)]).length = pre.length + 1 := by simp
      have cu : W.cell? ⟨w3.heap.size, 0, none⟩ = some u := (blk_cell hU 0).trans rfl
      have c0' : W.cell? ⟨Bx, 0, none⟩ = some (.int .i64 f0) := (blk_cell hX 0).trans rfl
      have c1' : W.cell? ⟨Bx, 1, none⟩ = some (.slice A f1.length c) := (blk_cell hX 1).trans rfl
      have c2' : W.cell? ⟨Bx, 2, none⟩ = some (.bool f2) := (blk_cell hX 2).trans rfl
      have hNlt : w.heap.size ≠ w3.heap.size := by have := blk_lt hN3; omega
      gi_wp2_with (gi_at_builtin; refine Seq.append_rowS k31 w3.heap.size rfl (.tmp 21) (.tmp 23) 24 31 _ 40 rfl Try.underlying24 info31 rfl (by decide) (by decide) u (pre.map LV.x) ⟨f0, f1, f2⟩ [.int .i64 f0, .slice A f1.length c, .bool f2] (fun _ => True) (fun k => B ≤ k ∧ some k ≠ u.ownBlock) rfl rfl (k31_mkM _ _ _ ⟨f0, f1, f2⟩ (Kd.R_apart' HG.out (Kd.S_typed HR.out) (by intro q hq; simp [Kd.int, Kd.scalar] at hq; omega))) (fun _ h => ⟨trivial, h.2⟩) (fun _ _ => trivial) (Kd.S_mono HR.out (fun k hk => ⟨trivial, fun h => Nat.lt_irrefl _ (Nat.lt_of_lt_of_le hk h.1)⟩)) hB.size (by rw [List.length_map]; omega) ?_; intro v1 w1 hr1 hg1 hat1; have hU1 := blk_grown hU hg1 (Kd.S_ne HR.out hU (by decide)); have cu1 : w1.cell? ⟨w3.heap.size, 0, none⟩ = some u := (blk_cell hU1 0).trans rfl; have fu1 := blk_frozen hU1 0; obtain ⟨A1, c1, hv1⟩ := Kd.S_slice hr1; rw [he1] at hv1; subst hv1; have HR1 := Aside0.mk hr1; clear hr1; have hU2 := blk_put hU1 0 (.slice A1 (pre.length + 1) c1) rfl; have cu2 : (w1.setCell ⟨w3.heap.size, 0, none⟩ (.slice A1 (pre.length + 1) c1)).cell? ⟨w3.heap.size, 0, none⟩ = some (.slice A1 (pre.length + 1) c1) := (blk_cell hU2 0).trans rfl; have hN1 := blk_grown hNW hg1 (Kd.S_ne HR.out hNW (by decide)); have cn2 : (w1.setCell ⟨w3.heap.size, 0, none⟩ (.slice A1 (pre.length + 1) c1)).cell? ⟨w.heap.size, 0, none⟩ = some (.int .u8 (q : Int)) := (blk_cell (blk_far hN1 hNlt _) 0).trans rfl)
      all_goals (
        have core : (∃ v, (w1.setCell ⟨w3.heap.size, 0, none⟩ (.slice A1 (pre.length + 1) c1)).heap[w3.heap.size]? = some (.cells #[v] 24 (0, 0)) ∧ Kd.S k31 31 (w1.setCell ⟨w3.heap.size, 0, none⟩ (.slice A1 (pre.length + 1) c1)) w3.heap.size (fun _ => True) v ((pre ++ [(⟨⟨f0, f1, f2⟩, .slice A f1.length c⟩ : LV)]).map LV.x)) ∧ (w1.setCell ⟨w3.heap.size, 0, none⟩ (.slice A1 (pre.length + 1) c1)).heap[w3.heap.size + 1]? = some (.cells #[.slice A0 l0.length c0] 22 (0, 0)) ∧ Below w3.heap.size w3 (w1.setCell ⟨w3.heap.size, 0, none⟩ (.slice A1 (pre.length + 1) c1)) :=
          ⟨⟨_, hU2, by rw [List.map_append]; exact Kd.S_set HR1.out hU1 k31_else 0 _⟩, blk_far (blk_grown hT1 hg1 (Kd.S_ne HR.out hT1 (by decide))) (by simp) _, (hB.grown hg1 hB.size (fun k e => Kd.S_base HR.out k e)).setCell (p := ⟨w3.heap.size, 0, none⟩) (Nat.le_refl _) _⟩
        have ko : KeepsOthers W (w1.setCell ⟨w3.heap.size, 0, none⟩ (.slice A1 (pre.length + 1) c1)) := (KeepsOthers.of_grownBy hg1 (fun j o ej hj => by obtain ⟨cells, hc⟩ := Kd.S_typed HR.out j ej; rw [hc] at hj; cases hj; rfl)).trans (KeepsOthers.setCell _ _ _))
      · rename_i hq
        exact ⟨ko, ⟨rfl, by simp; omega⟩, core⟩
      · rename_i hq
        exact ⟨ko, by simp; omega, core⟩
    case done =>
      rintro D xs W hD hS ⟨hpn, ⟨v, hv, hR⟩, hT1, hB⟩ hK
      obtain ⟨A, c, hv1⟩ := Kd.S_slice hR
      subst hv1
      have hNW := blk_below hN3 hB
      have cn : W.cell? ⟨w.heap.size, 0, none⟩ = some (.int .u8 (q : Int)) := (blk_cell hNW 0).trans rfl
      have cv : W.cell? ⟨w3.heap.size, 0, none⟩ = some (.slice A (xs.map LV.x).length c) := (blk_cell hv 0).trans rfl
      have hle : (xs.map LV.x).length ≤ q := by rw [List.length_map]; exact hpn
      have hC4 := Kd.C_below hC3 hB
      obtain ⟨_, hcg, hCg⟩ := Kd.S_reads' hR
      clear hv hpn
      rw [hS] at *
      obtain ⟨kk, hkk⟩ := same_take l0 (by omega) (linesUp l0 0 []).length
      rw [List.take_length] at hkk
      have hmix : Try.prog.follows .mixedOrders = true := by kernel_rfl
      have f16 : Fence.wide.fn 16 := trivial
      gi_wp2
      refine wpIn_mono (Q := Exit.then ?KK (fun _ _ _ => False)) ?reg (fun e a w h => by
        cases e with
        | normal => exact h
        | _ => exact h.elim)
      gi_region_with_o (gi_at_call 16; refine (callsIn_wide.2 (seinelaw02_same.calls kk A c (linesUp l0 0 []) Al cl (linesUp l0 0 []) 0 true _ (by first | exact hCg | exact Kd.C_drew hCg | exact Kd.C_drewN hCg _) hcg (by first | exact hC4 | exact Kd.C_drew hC4 | exact Kd.C_drewN hC4 _) hcl hkk)).mono ?_; rintro e w' ⟨rfl, ⟨nd, rfl⟩⟩)
      gi_wp2
      refine ⟨by simp, .inl ⟨_, _, rfl, run_takeDeferred (P := Try.prog) hK, ?_⟩⟩
      exact ⟨_, results_tmp rfl _ _ _, rfl, below_turn (pw_below_drewN (hB3.trans (hB.mono hB3.size)) _) (by have := hB3.size; omega) hK⟩
    case stop =>
      rintro D c' xs W hD hS ⟨⟨rfl, hpn⟩, ⟨v, hv, hR⟩, hT1, hB⟩ hK
      obtain ⟨A, c, hv1⟩ := Kd.S_slice hR
      subst hv1
      have hNW := blk_below hN3 hB
      have cn : W.cell? ⟨w.heap.size, 0, none⟩ = some (.int .u8 (q : Int)) := (blk_cell hNW 0).trans rfl
      have cv : W.cell? ⟨w3.heap.size, 0, none⟩ = some (.slice A (xs.map LV.x).length c) := (blk_cell hv 0).trans rfl
      obtain ⟨rest, hS⟩ := hS
      have hge : q + 1 ≤ (linesUp l0 0 []).length := by rw [← hS, List.length_append, List.length_map]; omega
      have hmn : ((q : Int) + 1) ≤ ((linesUp l0 0 []).length : Int) := by omega
      have htk : xs.map LV.x = (linesUp l0 0 []).take (q + 1) := by rw [← hS, List.take_left' (by simp [hpn])]
      have hlm : (xs.map LV.x).length = q + 1 := by rw [List.length_map]; exact hpn
      have hC4 := Kd.C_below hC3 hB
      obtain ⟨_, hcg, hCg⟩ := Kd.S_reads' hR
      rw [hlm] at cv hcg hCg
      clear hv hpn hS hR
      rw [htk] at hCg
      have hl5 : ((linesUp l0 0 []).take (q + 1)).length = q + 1 := by rw [List.length_take]; omega
      obtain ⟨kk, hkk⟩ := same_take l0 (by omega) (q + 1)
      have hmix : Try.prog.follows .mixedOrders = true := by kernel_rfl
      have f16 : Fence.wide.fn 16 := trivial
      have hl5' := Aside0.mk hl5
      have hC5 := Aside0.mk (show Kd.C k31 W Al (q + 1) ((linesUp l0 0 []).take (q + 1)) by have h5 := Kd.C_take (m := q + 1) hC4 hge; rw [hl5] at h5; exact h5)
      have hCG := Aside0.mk hCg
      have hC6 := Aside0.mk hC4
      have hge' := Aside0.mk hge
      clear hl5 hCg hC4 hge hmn
      gi_wp2
      · have hcl2 : q + 1 ≤ cl := by have := hge'.out; omega
        refine wpIn_mono (Q := Exit.then ?KL (fun _ _ _ => False)) ?regL (fun e a w h => by
          cases e with
          | normal => exact h
          | _ => exact h.elim)
        gi_region_with_o (gi_at_call 16; refine (same_call _ _ kk _ _ _ ((linesUp l0 0 []).take (q + 1)) _ _ _ hl5'.out (by first | exact hCG.out | exact Kd.C_drew hCG.out | exact Kd.C_drewN hCG.out _) hcg hl5'.out (by first | exact hC5.out | exact Kd.C_drew hC5.out | exact Kd.C_drewN hC5.out _) hcl2 hkk).mono ?_; rintro e w' ⟨rfl, ⟨nd, rfl⟩⟩)
        all_goals gi_wp2
        all_goals refine ⟨by simp, .inl ⟨_, _, rfl, run_takeDeferred (P := Try.prog) hK, ?_⟩⟩
        all_goals exact ⟨_, results_tmp rfl _ _ _, rfl, below_turn (pw_below_drewN (hB3.trans (hB.mono hB3.size)) _) (by have := hB3.size; omega) hK⟩
      · rename_i h1
        have hql : (linesUp l0 0 []).length = q + 1 := by have := hge'.out; omega
        have hC7 := Aside0.mk (show Kd.C k31 W Al (linesUp l0 0 []).length ((linesUp l0 0 []).take (q + 1)) by rw [List.take_of_length_le (by omega)]; exact hC6.out)
        have hl7 := Aside0.mk (show ((linesUp l0 0 []).take (q + 1)).length = (linesUp l0 0 []).length by rw [hl5'.out, hql])
        clear hql
        refine wpIn_mono (Q := Exit.then ?KM (fun _ _ _ => False)) ?regM (fun e a w h => by
          cases e with
          | normal => exact h
          | _ => exact h.elim)
        gi_region_with_o (gi_at_call 16; refine (same_call _ _ kk _ _ _ ((linesUp l0 0 []).take (q + 1)) _ _ _ hl5'.out (by first | exact hCG.out | exact Kd.C_drew hCG.out | exact Kd.C_drewN hCG.out _) hcg hl7.out (by first | exact hC7.out | exact Kd.C_drew hC7.out | exact Kd.C_drewN hC7.out _) hcl hkk).mono ?_; rintro e w' ⟨rfl, ⟨nd, rfl⟩⟩)
        all_goals gi_wp2
        all_goals refine ⟨by simp, .inl ⟨_, _, rfl, run_takeDeferred (P := Try.prog) hK, ?_⟩⟩
        all_goals exact ⟨_, results_tmp rfl _ _ _, rfl, below_turn (pw_below_drewN (hB3.trans (hB.mono hB3.size)) _) (by have := hB3.size; omega) hK⟩
end
def seinelaw02_LinesAll.f (l0 : List Int) (a1 : Int) : Option Bool := if 0 ≤ a1 ∧ a1 ≤ 255 then some true else none
theorem seinelaw02_LinesAll.calls (A0 : Option Addr) (c0 : Nat) (l0 : List Int) (a1 : Int) (r : Bool) (w : World) (hr0 : Kd.C (Kd.int .u8) w A0 l0.length l0) (hc0 : l0.length ≤ c0) (h : seinelaw02_LinesAll.f l0 a1 = some r) :
    Calls Try.prog 4 #[.slice A0 l0.length c0, .int .u8 a1] w fun e w' => e = .returned (.bool r) ∧ Below w.heap.size w w' := by
  unfold seinelaw02_LinesAll.f at h
  by_cases hq : 0 ≤ a1 ∧ a1 ≤ 255
  · rw [if_pos hq] at h
    obtain rfl := Option.some.inj h
    obtain ⟨q, rfl⟩ := Int.eq_ofNat_of_zero_le hq.1
    exact law_all A0 c0 l0 q w hr0 hc0 (by omega)
  · rw [if_neg hq] at h
    cases h

end Go.Proofs.Ytccpobbebfgpbaa.PLinesAll
