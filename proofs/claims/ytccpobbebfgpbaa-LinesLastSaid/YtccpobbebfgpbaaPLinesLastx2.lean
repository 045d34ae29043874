/- Functions of the translation and what they come to: laid by a program of this session (xprint.py) beside contracts proved by hand. No condition. -/
import Derived.Test.YtccpobbebfgpbaaPLinesLastx0
import Derived.Test.YtccpobbebfgpbaaPLinesLastx1
namespace Go.Proofs.Ytccpobbebfgpbaa.PLinesLast
open Go.RowKit Go.Proofs.YtccpobbebfgpbaaW.PrintWords Go.Proofs.YtccpobbebfgpbaaW.PrintLast Go.Proofs.YtccpobbebfgpbaaW.PrintMore
attribute [local go_sem] max2_int min2_int max_two min_two max_three min_three max_four min_four   -- for this text's walks alone
set_option linter.unusedVariables false
set_option linter.unusedSimpArgs false

theorem const_reads (w : World) (xs : List Int) (e : TypeId) (fr : Nat × Nat) (hm : xs.length ≤ 9223372036854775807) :
    Kd.C (Kd.int .u8) (w.alloc (.cells (xs.map (Value.int .u8)).toArray e fr)) (some ⟨w.heap.size, 0, none⟩) xs.length xs := by
  refine Kd.C_of_reads (d := (0 : Int)) (h1 := fun _ => rfl) ⟨rfl, hm, fun _ => ⟨_, rfl, fun j hj => ?_⟩⟩
  rw [add_plain, World.cell?_alloc_mark]
  simp [List.getD_eq_getElem?_getD, List.getElem?_eq_getElem hj]
def wa0 : List Int := [97, 10, 10, 98]
def wa1 : List Int := [97, 10]
def wa2 : List Int := [97, 10, 98]
def wa3 : List Int := [97]
def wl0 : List S31 := [⟨0, [97], true⟩, ⟨2, [], true⟩, ⟨3, [98], false⟩]
set_option maxHeartbeats 8000000 in
set_option maxRecDepth 100000 in
theorem awake_calls (w : World) :
    Calls Try.prog 9 #[] w fun e w' => e = .returned (.bool true) ∧ Below w.heap.size w w' := by
  have hu31 := Try.underlying31
  have kc := fun (w : World) (C : Array Value) (n c : Nat) => Lib.run_convert_bytes_const (P := Try.prog) w 22 5 C n c Try.underlying22 Try.underlying5
  have kc1 := kc w #[.int .u8 97, .int .u8 10, .int .u8 10, .int .u8 98] 4 4
  have HS := Aside0.mk (lines_Split.calls (some ⟨w.heap.size, 0, none⟩) 4 wa0 wl0 (w.alloc (.cells (wa0.map (Value.int .u8)).toArray 5 (4, 5))) (const_reads w wa0 5 (4, 5) (by decide)) (by decide) (by unfold lines_Split.f; rw [if_pos (by decide)]; rfl))
  have HB0 := Aside0.mk (below_alloc (Below.refl w.heap.size w) (.cells (wa0.map (Value.int .u8)).toArray 5 (4, 5)))
  go_enter Try.func9, Try.ntmps9
  go_wp2_with fail
  refine HS.out.mono ?_
  rintro e w1 ⟨v1, rfl, hs1, hb1⟩
  have hr1 := Kd.S_R hs1
  clear hs1
  obtain ⟨g, cap, rfl, _⟩ := Kd.R_form hr1 (by decide)
  obtain ⟨_, _, hC1⟩ := Kd.R_reads' hr1
  obtain ⟨ad0, A0, c0, e0, p0, p1, p2, p3, p4⟩ := at_T31 hC1 0 (by decide) (by decide)
  obtain ⟨ad1, A1, c1, e1, q0, q1, q2, q3, q4⟩ := at_T31 hC1 1 (by decide) (by decide)
  obtain ⟨ad2, A2, c2, e2, r0, r1, r2, r3, r4⟩ := at_T31 hC1 2 (by decide) (by decide)
  cases e0
  cases e1
  cases e2
  have s0 := Kd.C_string (P := Try.prog) (A := A0) (c := c0) Try.underlying22 Try.underlying5 Try.underlying9 p4
  have d0 : rd_T31 wl0 0 = ⟨0, [97], true⟩ := rfl
  have d1 : rd_T31 wl0 1 = ⟨2, [], true⟩ := rfl
  have d2 : rd_T31 wl0 2 = ⟨3, [98], false⟩ := rfl
  rw [d0] at p0 p1 p2 p3 p4 s0
  rw [d1] at q0 q1 q2 q3 q4
  rw [d2] at r0 r1 r2 r3 r4
  simp [Addr.add] at p0 p1 p2 q0 q1 q2 r0 r1 r2
  have hss : strOfNums [97] = ⟨#[97]⟩ := by decide +kernel
  rw [hss] at s0
  have s0' : (convert 22 9 (.slice A0 1 c0)).run Try.prog w1 = .ok (.string ⟨#[97]⟩) w1 := s0
  clear s0
  have HB1 := Aside0.mk (below_step HB0.out hb1)
  clear hr1 hC1 hb1 p4 q4 r4 p3 q3 r3 kc1 HS HB0
  have kc2 := kc w1 #[.int .u8 97, .int .u8 10] 2 2
  go_wp2_with fail
  refine (lines_Count.calls 20 (some ⟨w1.heap.size, 0, none⟩) 2 wa1 1 (w1.alloc (.cells (wa1.map (Value.int .u8)).toArray 5 (2, 3))) (const_reads w1 wa1 5 (2, 3) (by decide)) (by decide) (by decide +kernel)).mono ?_
  rintro e w2 ⟨rfl, hd⟩
  have HB2 := Aside0.mk (below_step (below_alloc HB1.out (.cells (wa1.map (Value.int .u8)).toArray 5 (2, 3))) hd.below)
  clear hd kc2 s0' p0 p1 p2 q0 q1 q2 r0 r1 r2
  have kc3 := kc w2 #[.int .u8 97, .int .u8 10, .int .u8 98] 3 3
  go_wp2_with fail
  refine (lines_Bare.calls 20 (some ⟨w2.heap.size, 0, none⟩) 3 wa2 2 (w2.alloc (.cells (wa2.map (Value.int .u8)).toArray 5 (3, 4))) (const_reads w2 wa2 5 (3, 4) (by decide)) (by decide) (by decide +kernel)).mono ?_
  rintro e w3 ⟨rfl, hd⟩
  have HB3 := Aside0.mk (below_step (below_alloc HB2.out (.cells (wa2.map (Value.int .u8)).toArray 5 (3, 4))) hd.below)
  clear hd kc3
  have kc4 := kc w3 #[.int .u8 97] 1 1
  have hC4 := const_reads w3 wa3 5 (1, 2) (by decide)
  have hJ : Kd.C (Kd.slice 5 (Kd.int .u8)) ((w3.alloc (.cells (wa3.map (Value.int .u8)).toArray 5 (1, 2))).alloc (.cells #[.slice (some ⟨w3.heap.size, 0, none⟩) 1 1, .slice none 0 0] 22)) (some ⟨w3.heap.size + 1, 0, none⟩) 2 [wa3, []] := by
    refine ⟨rfl, by decide, fun _ => ⟨_, rfl, fun j p hj => ?_⟩⟩
    have hb := blk_new (w3.alloc (.cells (wa3.map (Value.int .u8)).toArray 5 (1, 2))) (.cells #[.slice (some ⟨w3.heap.size, 0, none⟩) 1 1, .slice none 0 0] 22)
    rw [World.size_alloc] at hb
    have h0 := (blk_cell hb 0)
    have h1 := (blk_cell hb 1)
    match j, hj with
    | 0, hj =>
      cases hj
      exact ⟨[.slice (some ⟨w3.heap.size, 0, none⟩) 1 1], rfl, ⟨_, _, rfl, by decide, Kd.C_alloc hC4 _⟩, fun i u hu => by
        match i, hu with
        | 0, hu => cases hu; exact h0⟩
    | 1, hj =>
      cases hj
      exact ⟨[.slice none 0 0], rfl, ⟨_, _, rfl, by decide, Kd.C_nil _ _⟩, fun i u hu => by
        match i, hu with
        | 0, hu => cases hu; exact h1⟩
  have HJ := Aside0.mk (lines_Join.calls 20 (some ⟨w3.heap.size + 1, 0, none⟩) 2 [wa3, []] [97, 10, 10] _ hJ (by decide) (by decide +kernel))
  have HBJ := Aside0.mk (below_alloc (below_alloc HB3.out (.cells (wa3.map (Value.int .u8)).toArray 5 (1, 2))) (.cells #[.slice (some ⟨w3.heap.size, 0, none⟩) 1 1, .slice none 0 0] 22))
  clear hJ hC4
  go_wp2_with fail
  refine HJ.out.mono ?_
  rintro e w4 ⟨v4, rfl, hr4, hb4⟩
  obtain ⟨A4, c4, rfl, hd4, hC4⟩ := Kd.R_reads hr4
  have hcv := Kd.C_string (P := Try.prog) (A := A4) (c := c4) Try.underlying22 Try.underlying5 Try.underlying9 hC4
  have hss : strOfNums [97, 10, 10] = ⟨#[97, 10, 10]⟩ := by decide +kernel
  rw [hss] at hcv
  have hcv' : (convert 22 9 (.slice A4 3 c4)).run Try.prog w4 = .ok (.string ⟨#[97, 10, 10]⟩) w4 := hcv
  have HB4 := Aside0.mk (below_step HBJ.out hb4)
  clear hcv hss hr4 hb4 hC4 hd4 kc4 HJ HBJ
  go_wp2
  go_ret
  exact ⟨rfl, HB4.out⟩
def seinelaw02_awake.f : Option Bool := some true
theorem seinelaw02_awake.calls (r : Bool) (w : World) (h : seinelaw02_awake.f = some r) :
    Calls Try.prog 9 #[] w fun e w' => e = .returned (.bool r) ∧ Below w.heap.size w w' := by
  obtain rfl := Option.some.inj h
  exact awake_calls w

/-! ### seinelaw02_same: function 16 -/
def seinelaw02_same.l0 : Nat → List (S31) → List (S31) → Int → Int → Option (Bool)
  | 0, _, _, _, _ => none
  | k + 1, x0, x1, x2, x7 => if x7 < (x0.length : Int) then (if 0 ≤ x7 then (if x7 < (x1.length : Int) then (if ((rd_T31 x0 x7).f0) = (wrap64 (((rd_T31 x1 x7).f0) + x2)) then (if (strOfNums ((rd_T31 x0 x7).f1)).toList = (strOfNums ((rd_T31 x1 x7).f1)).toList then (if (((rd_T31 x0 x7).f2) != ((rd_T31 x1 x7).f2)) = true then (some false) else (seinelaw02_same.l0 k x0 x1 x2 (wrap64 (x7 + 1)))) else (some false)) else (some false)) else (none)) else (none)) else (some true)
def seinelaw02_same.f (k : Nat) (l0 : List (S31)) (l1 : List (S31)) (a2 : Int) : Option (Bool) := if (l0.length : Int) = (l1.length : Int) then (seinelaw02_same.l0 k l0 l1 a2 0) else (some false)
theorem seinelaw02_same.mono_l : ∀ k, (∀ y0 y1 y2 y3, LeO (seinelaw02_same.l0 k y0 y1 y2 y3) (seinelaw02_same.l0 (k + 1) y0 y1 y2 y3))
  | 0 => fun _ _ _ _ r h => by simp [seinelaw02_same.l0] at h
  | k + 1 => by
    have ih0 := seinelaw02_same.mono_l k
    · intro y0 y1 y2 y3
      unfold seinelaw02_same.l0
      repeat' first
      | (with_reducible exact ih0 _ _ _ _)
      | (with_reducible exact LeO.refl _)
      | (with_reducible exact LeO.none _)
      | (with_reducible refine LeO.ite ?_ ?_)
      | (with_reducible refine LeO.bind ?_ (fun _ => ?_))
      | exact ih0 _ _ _ _
      | exact LeO.none _
      | refine LeO.ite ?_ ?_
      | refine LeO.bind ?_ (fun _ => ?_)
theorem seinelaw02_same.mono : ∀ a0 a1 a2 k, LeO (seinelaw02_same.f k a0 a1 a2) (seinelaw02_same.f (k + 1) a0 a1 a2) := by
  intro a0 a1 a2 k
  have ih0 := seinelaw02_same.mono_l k
  unfold seinelaw02_same.f
  repeat' first
      | (with_reducible exact ih0 _ _ _ _)
      | (with_reducible exact LeO.refl _)
      | (with_reducible exact LeO.none _)
      | (with_reducible refine LeO.ite ?_ ?_)
      | (with_reducible refine LeO.bind ?_ (fun _ => ?_))
      | exact ih0 _ _ _ _
      | exact LeO.none _
      | refine LeO.ite ?_ ?_
      | refine LeO.bind ?_ (fun _ => ?_)
set_option maxHeartbeats 8000000 in
set_option maxRecDepth 100000 in
theorem seinelaw02_same.calls (k : Nat) (A0 : Option Addr) (c0 : Nat) (l0 : List (S31)) (A1 : Option Addr) (c1 : Nat) (l1 : List (S31)) (a2 : Int) (r : Bool) (w : World) (hr0 : Kd.C k31 w A0 l0.length l0) (hc0 : l0.length ≤ c0) (hr1 : Kd.C k31 w A1 l1.length l1) (hc1 : l1.length ≤ c1) (h : seinelaw02_same.f k l0 l1 a2 = some r) :
    Calls Try.prog 16 #[.slice A0 l0.length c0, .slice A1 l1.length c1, .int .i64 a2] w fun e w' => e = .returned (.bool r) ∧ Drawn0 w w' := by
  have HR0 := Aside0.mk hr0
  have HC0 := Aside0.mk hc0
  clear hr0 hc0
  have HR1 := Aside0.mk hr1
  have HC1 := Aside0.mk hc1
  clear hr1 hc1
  have H : (if (l0.length : Int) = (l1.length : Int) then (seinelaw02_same.l0 k l0 l1 a2 0) else (some false)) = some r := h
  clear h
  by_cases c4 : (l0.length : Int) = (l1.length : Int)
  · rw [if_pos c4] at H
    have c4b0 : ((l0.length : Int) == (l1.length : Int)) = true := beq_iff_eq.mpr c4
    have c4b1 : ((l0.length : Int) != (l1.length : Int)) = false := bne_eq_false_iff_eq.mpr c4
    have c4b2 : (l0.length == l1.length) = true := by first | simpa using c4 | (simp at c4 ⊢; omega)
    clear c4
    have H' := Aside0.mk H
    clear H
    go_enter Try.func16, Try.ntmps16
    go_wp2
    repeat (go_quiet (fail); try go_wp2)
    go_loopg [7] k (fun kq v7 w' => ∃ (x7_1 : Int), v7 = .int .i64 x7_1 ∧ Aside0 (seinelaw02_same.l0 kq l0 l1 a2 x7_1 = some r) ∧ Aside0 (kq ≤ k) ∧ Drawn0 w w')
    case atStart => exact ⟨(0), (by first | rfl | (simp; done) | (simp [*]; done) | (simp; exact (by intro a b; cases a <;> cases b <;> rfl : ∀ a b : Bool, (a == b) = (!(a != b))) _ _)), H', ⟨Nat.le_refl _⟩, by repeat (first | exact Drawn0.refl _ | apply Drawn0.step)⟩
    case round =>
      clear H'
      try clear c1
      try clear p2
      try clear c4
      try clear c4b0
      try clear c4b1
      try clear c4b2
      obtain ⟨x7_1, rfl, HA, HK1, ⟨m1, rfl⟩⟩ := hrel
      cases gk with
      | zero => exact absurd HA.out (by simp [seinelaw02_same.l0])
      | succ k1 =>
        have H := HA.out
        clear HA
        simp only [seinelaw02_same.l0] at H
        by_cases c5 : x7_1 < (l0.length : Int)
        · rw [if_pos c5] at H
          have c5b0 : decide (x7_1 < (l0.length : Int)) = true := decide_eq_true c5
          clear c5
          by_cases c6 : 0 ≤ x7_1
          · rw [if_pos c6] at H
            have c6b0 : decide (0 ≤ x7_1) = true := decide_eq_true c6
            clear c6
            by_cases c7 : x7_1 < (l1.length : Int)
            · rw [if_pos c7] at H
              have c7b0 : decide (x7_1 < (l1.length : Int)) = true := decide_eq_true c7
              clear c7
              by_cases c8 : ((rd_T31 l0 x7_1).f0) = (wrap64 (((rd_T31 l1 x7_1).f0) + a2))
              · rw [if_pos c8] at H
                have c8b0 : (((rd_T31 l0 x7_1).f0) == (wrap64 (((rd_T31 l1 x7_1).f0) + a2))) = true := beq_iff_eq.mpr c8
                have c8b1 : (((rd_T31 l0 x7_1).f0) != (wrap64 (((rd_T31 l1 x7_1).f0) + a2))) = false := bne_eq_false_iff_eq.mpr c8
                clear c8
                by_cases c9 : (strOfNums ((rd_T31 l0 x7_1).f1)).toList = (strOfNums ((rd_T31 l1 x7_1).f1)).toList
                · rw [if_pos c9] at H
                  have c9b0 : ((strOfNums ((rd_T31 l0 x7_1).f1)).toList == (strOfNums ((rd_T31 l1 x7_1).f1)).toList) = true := beq_iff_eq.mpr c9
                  have c9b1 : ((strOfNums ((rd_T31 l0 x7_1).f1)).toList != (strOfNums ((rd_T31 l1 x7_1).f1)).toList) = false := bne_eq_false_iff_eq.mpr c9
                  clear c9
                  by_cases c10 : (((rd_T31 l0 x7_1).f2) != ((rd_T31 l1 x7_1).f2)) = true
                  · rw [if_pos c10] at H
                    have c10b0 : (((rd_T31 l0 x7_1).f2) != ((rd_T31 l1 x7_1).f2)) = true := c10
                    (try (have c10b1 : decide (((rd_T31 l0 x7_1).f2) = ((rd_T31 l1 x7_1).f2)) = false := by simpa using c10))
                    (try (have c10b2 : (((rd_T31 l0 x7_1).f2) == ((rd_T31 l1 x7_1).f2)) = false := by simpa using c10))
                    (try (have c10b3 : ¬ (((rd_T31 l0 x7_1).f2) = ((rd_T31 l1 x7_1).f2)) := by simpa using c10))
                    clear c10
                    obtain rfl := Option.some.inj H
                    have p112 : 0 ≤ (x7_1 : Int) := of_decide_eq_true (by first | (with_reducible assumption) | assumption)
                    have q112 : x7_1 < (l0.length : Int) := of_decide_eq_true (by first | (with_reducible assumption) | assumption)
                    obtain ⟨ad112, A112_1, c112_1, e112, hx112_0, hx112_1, hx112_2, hl112_1, hi112_1⟩ := at_T31 HR0.out x7_1 p112 q112
                    cases e112
                    have HR112_1 := Aside0.mk hi112_1
                    have HC112_1 := Aside0.mk hl112_1
                    clear hi112_1 hl112_1
                    replace p112 := eq_true p112
                    replace q112 := eq_true q112
                    have p113 : 0 ≤ (x7_1 : Int) := of_decide_eq_true (by first | (with_reducible assumption) | assumption)
                    have q113 : x7_1 < (l1.length : Int) := of_decide_eq_true (by first | (with_reducible assumption) | assumption)
                    obtain ⟨ad113, A113_1, c113_1, e113, hx113_0, hx113_1, hx113_2, hl113_1, hi113_1⟩ := at_T31 HR1.out x7_1 p113 q113
                    cases e113
                    have HR113_1 := Aside0.mk hi113_1
                    have HC113_1 := Aside0.mk hl113_1
                    clear hi113_1 hl113_1
                    replace p113 := eq_true p113
                    replace q113 := eq_true q113
                    have p114 : 0 ≤ (x7_1 : Int) := of_decide_eq_true (by first | (with_reducible assumption) | assumption)
                    have q114 : x7_1 < (l0.length : Int) := of_decide_eq_true (by first | (with_reducible assumption) | assumption)
                    obtain ⟨ad114, A114_1, c114_1, e114, hx114_0, hx114_1, hx114_2, hl114_1, hi114_1⟩ := at_T31 HR0.out x7_1 p114 q114
                    obtain rfl : ad112 = ad114 := (by injection e114)
                    have HR114_1 := Aside0.mk hi114_1
                    have HC114_1 := Aside0.mk hl114_1
                    clear hi114_1 hl114_1
                    replace p114 := eq_true p114
                    replace q114 := eq_true q114
                    have ea_ := Option.some.inj (hx112_1.symm.trans hx114_1)
                    injection ea_ with ea_ en_ ec_
                    subst ea_
                    subst ec_
                    clear en_
                    have hcv11 := Kd.C_string (P := Try.prog) (A := A112_1) (c := c112_1) Try.underlying22 Try.underlying5 Try.underlying9 HR114_1.out
                    have hcvq11 := fun m => Kd.C_string (P := Try.prog) (A := A112_1) (c := c112_1) Try.underlying22 Try.underlying5 Try.underlying9 (Kd.C_drewN HR114_1.out m)
                    have p115 : 0 ≤ (x7_1 : Int) := of_decide_eq_true (by first | (with_reducible assumption) | assumption)
                    have q115 : x7_1 < (l1.length : Int) := of_decide_eq_true (by first | (with_reducible assumption) | assumption)
                    obtain ⟨ad115, A115_1, c115_1, e115, hx115_0, hx115_1, hx115_2, hl115_1, hi115_1⟩ := at_T31 HR1.out x7_1 p115 q115
                    obtain rfl : ad113 = ad115 := (by injection e115)
                    have HR115_1 := Aside0.mk hi115_1
                    have HC115_1 := Aside0.mk hl115_1
                    clear hi115_1 hl115_1
                    replace p115 := eq_true p115
                    replace q115 := eq_true q115
                    have ea_ := Option.some.inj (hx113_1.symm.trans hx115_1)
                    injection ea_ with ea_ en_ ec_
                    subst ea_
                    subst ec_
                    clear en_
                    have hcv12 := Kd.C_string (P := Try.prog) (A := A113_1) (c := c113_1) Try.underlying22 Try.underlying5 Try.underlying9 HR115_1.out
                    have hcvq12 := fun m => Kd.C_string (P := Try.prog) (A := A113_1) (c := c113_1) Try.underlying22 Try.underlying5 Try.underlying9 (Kd.C_drewN HR115_1.out m)
                    have p116 : 0 ≤ (x7_1 : Int) := of_decide_eq_true (by first | (with_reducible assumption) | assumption)
                    have q116 : x7_1 < (l0.length : Int) := of_decide_eq_true (by first | (with_reducible assumption) | assumption)
                    obtain ⟨ad116, A116_1, c116_1, e116, hx116_0, hx116_1, hx116_2, hl116_1, hi116_1⟩ := at_T31 HR0.out x7_1 p116 q116
                    obtain rfl : ad112 = ad116 := (by injection e116)
                    have HR116_1 := Aside0.mk hi116_1
                    have HC116_1 := Aside0.mk hl116_1
                    clear hi116_1 hl116_1
                    replace p116 := eq_true p116
                    replace q116 := eq_true q116
                    have ea_ := Option.some.inj (hx112_1.symm.trans hx116_1)
                    injection ea_ with ea_ en_ ec_
                    subst ea_
                    subst ec_
                    clear en_
                    have p117 : 0 ≤ (x7_1 : Int) := of_decide_eq_true (by first | (with_reducible assumption) | assumption)
                    have q117 : x7_1 < (l1.length : Int) := of_decide_eq_true (by first | (with_reducible assumption) | assumption)
                    obtain ⟨ad117, A117_1, c117_1, e117, hx117_0, hx117_1, hx117_2, hl117_1, hi117_1⟩ := at_T31 HR1.out x7_1 p117 q117
                    obtain rfl : ad113 = ad117 := (by injection e117)
                    have HR117_1 := Aside0.mk hi117_1
                    have HC117_1 := Aside0.mk hl117_1
                    clear hi117_1 hl117_1
                    replace p117 := eq_true p117
                    replace q117 := eq_true q117
                    have ea_ := Option.some.inj (hx113_1.symm.trans hx117_1)
                    injection ea_ with ea_ en_ ec_
                    subst ea_
                    subst ec_
                    clear en_
                    go_wp2
                    repeat (go_quiet (fail); try go_wp2)
                    go_ret
                    exact ⟨by first | rfl | (simp; done) | (simp [*]; done) | (simp; exact (by intro a b; cases a <;> cases b <;> rfl : ∀ a b : Bool, (a == b) = (!(a != b))) _ _), by repeat (first | exact Drawn0.refl _ | apply Drawn0.step)⟩
                  · rw [if_neg c10] at H
                    have c10b0 : (((rd_T31 l0 x7_1).f2) != ((rd_T31 l1 x7_1).f2)) = false := by simpa using c10
                    (try (have c10b1 : decide (((rd_T31 l0 x7_1).f2) = ((rd_T31 l1 x7_1).f2)) = true := by simpa using c10))
                    (try (have c10b2 : (((rd_T31 l0 x7_1).f2) == ((rd_T31 l1 x7_1).f2)) = true := by simpa using c10))
                    clear c10
                    have H' := Aside0.mk H
                    clear H
                    have p112 : 0 ≤ (x7_1 : Int) := of_decide_eq_true (by first | (with_reducible assumption) | assumption)
                    have q112 : x7_1 < (l0.length : Int) := of_decide_eq_true (by first | (with_reducible assumption) | assumption)
                    obtain ⟨ad112, A112_1, c112_1, e112, hx112_0, hx112_1, hx112_2, hl112_1, hi112_1⟩ := at_T31 HR0.out x7_1 p112 q112
                    cases e112
                    have HR112_1 := Aside0.mk hi112_1
                    have HC112_1 := Aside0.mk hl112_1
                    clear hi112_1 hl112_1
                    replace p112 := eq_true p112
                    replace q112 := eq_true q112
                    have p113 : 0 ≤ (x7_1 : Int) := of_decide_eq_true (by first | (with_reducible assumption) | assumption)
                    have q113 : x7_1 < (l1.length : Int) := of_decide_eq_true (by first | (with_reducible assumption) | assumption)
                    obtain ⟨ad113, A113_1, c113_1, e113, hx113_0, hx113_1, hx113_2, hl113_1, hi113_1⟩ := at_T31 HR1.out x7_1 p113 q113
                    cases e113
                    have HR113_1 := Aside0.mk hi113_1
                    have HC113_1 := Aside0.mk hl113_1
                    clear hi113_1 hl113_1
                    replace p113 := eq_true p113
                    replace q113 := eq_true q113
                    have p114 : 0 ≤ (x7_1 : Int) := of_decide_eq_true (by first | (with_reducible assumption) | assumption)
                    have q114 : x7_1 < (l0.length : Int) := of_decide_eq_true (by first | (with_reducible assumption) | assumption)
                    obtain ⟨ad114, A114_1, c114_1, e114, hx114_0, hx114_1, hx114_2, hl114_1, hi114_1⟩ := at_T31 HR0.out x7_1 p114 q114
                    obtain rfl : ad112 = ad114 := (by injection e114)
                    have HR114_1 := Aside0.mk hi114_1
                    have HC114_1 := Aside0.mk hl114_1
                    clear hi114_1 hl114_1
                    replace p114 := eq_true p114
                    replace q114 := eq_true q114
                    have ea_ := Option.some.inj (hx112_1.symm.trans hx114_1)
                    injection ea_ with ea_ en_ ec_
                    subst ea_
                    subst ec_
                    clear en_
                    have hcv13 := Kd.C_string (P := Try.prog) (A := A112_1) (c := c112_1) Try.underlying22 Try.underlying5 Try.underlying9 HR114_1.out
                    have hcvq13 := fun m => Kd.C_string (P := Try.prog) (A := A112_1) (c := c112_1) Try.underlying22 Try.underlying5 Try.underlying9 (Kd.C_drewN HR114_1.out m)
                    have p115 : 0 ≤ (x7_1 : Int) := of_decide_eq_true (by first | (with_reducible assumption) | assumption)
                    have q115 : x7_1 < (l1.length : Int) := of_decide_eq_true (by first | (with_reducible assumption) | assumption)
                    obtain ⟨ad115, A115_1, c115_1, e115, hx115_0, hx115_1, hx115_2, hl115_1, hi115_1⟩ := at_T31 HR1.out x7_1 p115 q115
                    obtain rfl : ad113 = ad115 := (by injection e115)
                    have HR115_1 := Aside0.mk hi115_1
                    have HC115_1 := Aside0.mk hl115_1
                    clear hi115_1 hl115_1
                    replace p115 := eq_true p115
                    replace q115 := eq_true q115
                    have ea_ := Option.some.inj (hx113_1.symm.trans hx115_1)
                    injection ea_ with ea_ en_ ec_
                    subst ea_
                    subst ec_
                    clear en_
                    have hcv14 := Kd.C_string (P := Try.prog) (A := A113_1) (c := c113_1) Try.underlying22 Try.underlying5 Try.underlying9 HR115_1.out
                    have hcvq14 := fun m => Kd.C_string (P := Try.prog) (A := A113_1) (c := c113_1) Try.underlying22 Try.underlying5 Try.underlying9 (Kd.C_drewN HR115_1.out m)
                    have p116 : 0 ≤ (x7_1 : Int) := of_decide_eq_true (by first | (with_reducible assumption) | assumption)
                    have q116 : x7_1 < (l0.length : Int) := of_decide_eq_true (by first | (with_reducible assumption) | assumption)
                    obtain ⟨ad116, A116_1, c116_1, e116, hx116_0, hx116_1, hx116_2, hl116_1, hi116_1⟩ := at_T31 HR0.out x7_1 p116 q116
                    obtain rfl : ad112 = ad116 := (by injection e116)
                    have HR116_1 := Aside0.mk hi116_1
                    have HC116_1 := Aside0.mk hl116_1
                    clear hi116_1 hl116_1
                    replace p116 := eq_true p116
                    replace q116 := eq_true q116
                    have ea_ := Option.some.inj (hx112_1.symm.trans hx116_1)
                    injection ea_ with ea_ en_ ec_
                    subst ea_
                    subst ec_
                    clear en_
                    have p117 : 0 ≤ (x7_1 : Int) := of_decide_eq_true (by first | (with_reducible assumption) | assumption)
                    have q117 : x7_1 < (l1.length : Int) := of_decide_eq_true (by first | (with_reducible assumption) | assumption)
                    obtain ⟨ad117, A117_1, c117_1, e117, hx117_0, hx117_1, hx117_2, hl117_1, hi117_1⟩ := at_T31 HR1.out x7_1 p117 q117
                    obtain rfl : ad113 = ad117 := (by injection e117)
                    have HR117_1 := Aside0.mk hi117_1
                    have HC117_1 := Aside0.mk hl117_1
                    clear hi117_1 hl117_1
                    replace p117 := eq_true p117
                    replace q117 := eq_true q117
                    have ea_ := Option.some.inj (hx113_1.symm.trans hx117_1)
                    injection ea_ with ea_ en_ ec_
                    subst ea_
                    subst ec_
                    clear en_
                    go_wp2
                    repeat (go_quiet (fail); try go_wp2)
                    go_roundg k1
                    case measure => have := HK1.out; omega
                    case rel => exact ⟨(wrap64 (x7_1 + 1)), (by first | rfl | (simp; done) | (simp [*]; done) | (simp; exact (by intro a b; cases a <;> cases b <;> rfl : ∀ a b : Bool, (a == b) = (!(a != b))) _ _)), H', ⟨by have := HK1.out; omega⟩, by repeat (first | exact Drawn0.refl _ | apply Drawn0.step)⟩
                · rw [if_neg c9] at H
                  have c9b0 : ((strOfNums ((rd_T31 l0 x7_1).f1)).toList == (strOfNums ((rd_T31 l1 x7_1).f1)).toList) = false := beq_eq_false_iff_ne.mpr c9
                  have c9b1 : ((strOfNums ((rd_T31 l0 x7_1).f1)).toList != (strOfNums ((rd_T31 l1 x7_1).f1)).toList) = true := bne_iff_ne.mpr c9
                  obtain rfl := Option.some.inj H
                  have p112 : 0 ≤ (x7_1 : Int) := of_decide_eq_true (by first | (with_reducible assumption) | assumption)
                  have q112 : x7_1 < (l0.length : Int) := of_decide_eq_true (by first | (with_reducible assumption) | assumption)
                  obtain ⟨ad112, A112_1, c112_1, e112, hx112_0, hx112_1, hx112_2, hl112_1, hi112_1⟩ := at_T31 HR0.out x7_1 p112 q112
                  cases e112
                  have HR112_1 := Aside0.mk hi112_1
                  have HC112_1 := Aside0.mk hl112_1
                  clear hi112_1 hl112_1
                  replace p112 := eq_true p112
                  replace q112 := eq_true q112
                  have p113 : 0 ≤ (x7_1 : Int) := of_decide_eq_true (by first | (with_reducible assumption) | assumption)
                  have q113 : x7_1 < (l1.length : Int) := of_decide_eq_true (by first | (with_reducible assumption) | assumption)
                  obtain ⟨ad113, A113_1, c113_1, e113, hx113_0, hx113_1, hx113_2, hl113_1, hi113_1⟩ := at_T31 HR1.out x7_1 p113 q113
                  cases e113
                  have HR113_1 := Aside0.mk hi113_1
                  have HC113_1 := Aside0.mk hl113_1
                  clear hi113_1 hl113_1
                  replace p113 := eq_true p113
                  replace q113 := eq_true q113
                  have p114 : 0 ≤ (x7_1 : Int) := of_decide_eq_true (by first | (with_reducible assumption) | assumption)
                  have q114 : x7_1 < (l0.length : Int) := of_decide_eq_true (by first | (with_reducible assumption) | assumption)
                  obtain ⟨ad114, A114_1, c114_1, e114, hx114_0, hx114_1, hx114_2, hl114_1, hi114_1⟩ := at_T31 HR0.out x7_1 p114 q114
                  obtain rfl : ad112 = ad114 := (by injection e114)
                  have HR114_1 := Aside0.mk hi114_1
                  have HC114_1 := Aside0.mk hl114_1
                  clear hi114_1 hl114_1
                  replace p114 := eq_true p114
                  replace q114 := eq_true q114
                  have ea_ := Option.some.inj (hx112_1.symm.trans hx114_1)
                  injection ea_ with ea_ en_ ec_
                  subst ea_
                  subst ec_
                  clear en_
                  have hcv15 := Kd.C_string (P := Try.prog) (A := A112_1) (c := c112_1) Try.underlying22 Try.underlying5 Try.underlying9 HR114_1.out
                  have hcvq15 := fun m => Kd.C_string (P := Try.prog) (A := A112_1) (c := c112_1) Try.underlying22 Try.underlying5 Try.underlying9 (Kd.C_drewN HR114_1.out m)
                  have p115 : 0 ≤ (x7_1 : Int) := of_decide_eq_true (by first | (with_reducible assumption) | assumption)
                  have q115 : x7_1 < (l1.length : Int) := of_decide_eq_true (by first | (with_reducible assumption) | assumption)
                  obtain ⟨ad115, A115_1, c115_1, e115, hx115_0, hx115_1, hx115_2, hl115_1, hi115_1⟩ := at_T31 HR1.out x7_1 p115 q115
                  obtain rfl : ad113 = ad115 := (by injection e115)
                  have HR115_1 := Aside0.mk hi115_1
                  have HC115_1 := Aside0.mk hl115_1
                  clear hi115_1 hl115_1
                  replace p115 := eq_true p115
                  replace q115 := eq_true q115
                  have ea_ := Option.some.inj (hx113_1.symm.trans hx115_1)
                  injection ea_ with ea_ en_ ec_
                  subst ea_
                  subst ec_
                  clear en_
                  have hcv16 := Kd.C_string (P := Try.prog) (A := A113_1) (c := c113_1) Try.underlying22 Try.underlying5 Try.underlying9 HR115_1.out
                  have hcvq16 := fun m => Kd.C_string (P := Try.prog) (A := A113_1) (c := c113_1) Try.underlying22 Try.underlying5 Try.underlying9 (Kd.C_drewN HR115_1.out m)
                  go_wp2
                  repeat (go_quiet (fail); try go_wp2)
                  go_ret
                  exact ⟨by first | rfl | (simp; done) | (simp [*]; done) | (simp; exact (by intro a b; cases a <;> cases b <;> rfl : ∀ a b : Bool, (a == b) = (!(a != b))) _ _), by repeat (first | exact Drawn0.refl _ | apply Drawn0.step)⟩
              · rw [if_neg c8] at H
                have c8b0 : (((rd_T31 l0 x7_1).f0) == (wrap64 (((rd_T31 l1 x7_1).f0) + a2))) = false := beq_eq_false_iff_ne.mpr c8
                have c8b1 : (((rd_T31 l0 x7_1).f0) != (wrap64 (((rd_T31 l1 x7_1).f0) + a2))) = true := bne_iff_ne.mpr c8
                obtain rfl := Option.some.inj H
                have p112 : 0 ≤ (x7_1 : Int) := of_decide_eq_true (by first | (with_reducible assumption) | assumption)
                have q112 : x7_1 < (l0.length : Int) := of_decide_eq_true (by first | (with_reducible assumption) | assumption)
                obtain ⟨ad112, A112_1, c112_1, e112, hx112_0, hx112_1, hx112_2, hl112_1, hi112_1⟩ := at_T31 HR0.out x7_1 p112 q112
                cases e112
                have HR112_1 := Aside0.mk hi112_1
                have HC112_1 := Aside0.mk hl112_1
                clear hi112_1 hl112_1
                replace p112 := eq_true p112
                replace q112 := eq_true q112
                have p113 : 0 ≤ (x7_1 : Int) := of_decide_eq_true (by first | (with_reducible assumption) | assumption)
                have q113 : x7_1 < (l1.length : Int) := of_decide_eq_true (by first | (with_reducible assumption) | assumption)
                obtain ⟨ad113, A113_1, c113_1, e113, hx113_0, hx113_1, hx113_2, hl113_1, hi113_1⟩ := at_T31 HR1.out x7_1 p113 q113
                cases e113
                have HR113_1 := Aside0.mk hi113_1
                have HC113_1 := Aside0.mk hl113_1
                clear hi113_1 hl113_1
                replace p113 := eq_true p113
                replace q113 := eq_true q113
                go_wp2
                repeat (go_quiet (fail); try go_wp2)
                go_ret
                exact ⟨by first | rfl | (simp; done) | (simp [*]; done) | (simp; exact (by intro a b; cases a <;> cases b <;> rfl : ∀ a b : Bool, (a == b) = (!(a != b))) _ _), by repeat (first | exact Drawn0.refl _ | apply Drawn0.step)⟩
            · rw [if_neg c7] at H
              exact absurd H (by simp)
          · rw [if_neg c6] at H
            exact absurd H (by simp)
        · rw [if_neg c5] at H
          have c5b0 : decide (x7_1 < (l0.length : Int)) = false := decide_eq_false c5
          clear c5
          obtain rfl := Option.some.inj H
          go_wp2
          repeat (go_quiet (fail); try go_wp2)
          go_ret
          exact ⟨by first | rfl | (simp; done) | (simp [*]; done) | (simp; exact (by intro a b; cases a <;> cases b <;> rfl : ∀ a b : Bool, (a == b) = (!(a != b))) _ _), by repeat (first | exact Drawn0.refl _ | apply Drawn0.step)⟩
  · rw [if_neg c4] at H
    have c4b0 : ((l0.length : Int) == (l1.length : Int)) = false := beq_eq_false_iff_ne.mpr c4
    have c4b1 : ((l0.length : Int) != (l1.length : Int)) = true := bne_iff_ne.mpr c4
    have c4b2 : (l0.length == l1.length) = false := by first | simpa using c4 | (simp at c4 ⊢; omega)
    obtain rfl := Option.some.inj H
    go_enter Try.func16, Try.ntmps16
    go_wp2
    repeat (go_quiet (fail); try go_wp2)
    go_ret
    exact ⟨by first | rfl | (simp; done) | (simp [*]; done) | (simp; exact (by intro a b; cases a <;> cases b <;> rfl : ∀ a b : Bool, (a == b) = (!(a != b))) _ _), by repeat (first | exact Drawn0.refl _ | apply Drawn0.step)⟩

section
open Go.Proofs.Ytccpobbebfgpbaa.Aid
/-- is a line under way at a text's end? -/
def openE : List Int → Bool → Bool
  | [], b => b
  | c :: l, _ => openE l (decide (c ≠ 10))
theorem openE_snoc : ∀ (l : List Int) (c : Int) (b : Bool), openE (l ++ [c]) b = decide (c ≠ 10)
  | [], _, _ => rfl
  | _ :: l, c, _ => openE_snoc l c _
theorem last_rd (l : List Int) (h : 0 < l.length) : ∃ a c, l = a ++ [c] ∧ rd l ((l.length : Int) - 1) = c := by
  obtain ⟨a, c, rfl⟩ : ∃ a c, l = a ++ [c] := ⟨l.dropLast, l.getLast (by intro e; rw [e] at h; simp at h), (List.dropLast_concat_getLast _).symm⟩
  refine ⟨a, c, rfl, ?_⟩
  rw [show (((a ++ [c]).length : Int) - 1) = (a.length : Int) by simp, rd_nat _ _ (by simp)]
  simp
theorem up_closed : ∀ (l : List Int) (off : Int) (cur : List Int), openE l (decide (cur ≠ [])) = false → linesUp (l ++ [10]) off cur = linesUp l off cur ++ [⟨off + cur.length + l.length, [], true⟩]
  | [], off, cur, h => by
    have : cur = [] := by unfold openE at h; simpa using h
    subst this
    simp [linesUp]
  | c :: l, off, cur, h => by
    rw [List.cons_append, linesUp_cons, linesUp_cons]
    unfold openE at h
    by_cases e : c = 10
    · rw [if_pos e, if_pos e, up_closed l _ [] (by simpa [e] using h), List.cons_append]
      rw [show (off + (cur.length : Int) + 1) + (([] : List Int).length : Int) + (l.length : Int) = off + (cur.length : Int) + ((c :: l).length : Int) by simp; omega]
    · rw [if_neg e, if_neg e, up_closed l off (cur ++ [c]) (by simpa [e] using h)]
      rw [show off + ((cur ++ [c]).length : Int) + (l.length : Int) = off + (cur.length : Int) + ((c :: l).length : Int) by simp; omega]
theorem up_open : ∀ (l : List Int) (off : Int) (cur : List Int), openE l (decide (cur ≠ [])) = true → ∃ p o x, linesUp l off cur = p ++ [⟨o, x, false⟩] ∧ linesUp (l ++ [10]) off cur = p ++ [⟨o, x, true⟩]
  | [], off, cur, h => by
    have : cur ≠ [] := by unfold openE at h; simpa using h
    exact ⟨[], off, cur, by simp [linesUp, this], by simp [linesUp]⟩
  | c :: l, off, cur, h => by
    rw [List.cons_append, linesUp_cons, linesUp_cons]
    unfold openE at h
    by_cases e : c = 10
    · obtain ⟨p, o, x, h1, h2⟩ := up_open l (off + cur.length + 1) [] (by simpa [e] using h)
      rw [if_pos e, if_pos e, h1, h2]
      exact ⟨⟨off, cur, true⟩ :: p, o, x, rfl, rfl⟩
    · obtain ⟨p, o, x, h1, h2⟩ := up_open l off (cur ++ [c]) (by simpa [e] using h)
      rw [if_neg e, if_neg e, h1, h2]
      exact ⟨p, o, x, rfl, rfl⟩
/-- where lines begin -/
theorem up_offs : ∀ (l : List Int) (off : Int) (cur : List Int), 0 ≤ off → ∀ x ∈ linesUp l off cur, off ≤ x.f0 ∧ x.f0 ≤ off + cur.length + l.length
  | [], off, cur, h, x, hx => by
    unfold linesUp at hx
    split at hx
    · cases hx
    · rw [List.mem_singleton] at hx; subst hx; refine ⟨?_, ?_⟩ <;> simp <;> omega
  | c :: l, off, cur, h, x, hx => by
    rw [linesUp_cons] at hx
    by_cases e : c = 10
    · rw [if_pos e] at hx
      rcases List.mem_cons.mp hx with hx | hx
      · subst hx; simp; omega
      · have := up_offs l (off + cur.length + 1) [] (by omega) x hx
        simp at this ⊢; omega
    · rw [if_neg e] at hx
      have := up_offs l off (cur ++ [c]) h x hx
      simp at this ⊢; omega
theorem split_n (A : Option Addr) (n c : Nat) (l : List Int) (R : List S31) (m : Nat) (w : World) (hn : l.length = n) (hr : Kd.C (Kd.int .u8) w A n l) (hc : n ≤ c) (h : lines_Split.f l = some R) (hm : R.length = m) :
    Calls Try.prog 10 #[.slice A n c] w fun e w' => ∃ (Av : Option Addr) (cv : Nat), e = .returned (.slice Av m cv) ∧ m ≤ cv ∧ Kd.C k31 w' Av m R ∧ Below w.heap.size w w' := by
  subst hn
  subst hm
  refine (lines_Split.calls A c l R w hr hc h).mono ?_
  rintro e w' ⟨v, rfl, hs, hb⟩
  obtain ⟨Av, cv, rfl, hl, hC⟩ := Kd.S_reads hs
  exact ⟨Av, cv, rfl, hl, hC, hb⟩
theorem same_n (k : Nat) (A : Option Addr) (n c : Nat) (l : List S31) (A1 : Option Addr) (n1 c1 : Nat) (l1 : List S31) (w : World) (hn : l.length = n) (hr : Kd.C k31 w A n l) (hc : n ≤ c) (hn1 : l1.length = n1) (hr1 : Kd.C k31 w A1 n1 l1) (hc1 : n1 ≤ c1) (h : seinelaw02_same.f k l l1 0 = some true) :
    Calls Try.prog 16 #[.slice A n c, .slice A1 n1 c1, .int .i64 0] w fun e w' => e = .returned (.bool true) ∧ Drawn0 w w' := by
  subst hn
  subst hn1
  exact seinelaw02_same.calls k A c l A1 c1 l1 0 true w hr hc hr1 hc1 h
set_option maxHeartbeats 8000000 in
set_option maxRecDepth 100000 in
theorem law_open (A0 : Option Addr) (c0 : Nat) (t : List Int) (w : World) (X Y : List S31) (k mx : Nat) (n : Int) (hr0 : Kd.C (Kd.int .u8) w A0 t.length t) (hc0 : t.length ≤ c0) (hlen : ¬ (t.length : Int) > 800) (hX : lines_Split.f t = some X) (hY : lines_Split.f (t ++ [10]) = some Y) (hXl : X.length = mx) (hYl : Y.length = mx) (q c o : Int) (tx : List Int) (hq : (t.length : Int) - 1 = q) (q0 : 0 ≤ q) (q1 : q < (t.length : Int)) (hrd : rd t q = c) (hcn : c ≠ 10) (hn : (mx : Int) - 1 = n) (n0 : 0 ≤ n) (n1 : n < (mx : Int)) (gx : rd_T31 X n = ⟨o, tx, false⟩) (gy : rd_T31 Y n = ⟨o, tx, true⟩) (hs : seinelaw02_same.f k (X.take n.toNat) (Y.take n.toNat) 0 = some true) :
    Calls Try.prog 8 #[.slice A0 t.length c0] w fun e w' => e = .returned (.bool true) ∧ Below w.heap.size w w' := by
  have d1 : decide ((t.length : Int) > 800) = false := decide_eq_false hlen
  have HR0 := Aside0.mk hr0
  have HX := Aside0.mk hX
  have HY := Aside0.mk hY
  have HXl := Aside0.mk hXl
  have HYl := Aside0.mk hYl
  have HL := Aside0.mk (show (t ++ [10] : List Int).length = t.length + 1 by simp)
  clear hr0 hX hY hXl hYl
  have tok1 : True := trivial
  have HRD := Aside0.mk hrd
  have HS := Aside0.mk hs
  have GX := Aside0.mk gx
  have GY := Aside0.mk gy
  clear hrd hs gx gy
  have hcb : (c != 10) = true := bne_iff_ne.mpr hcn
  have d2 : decide ((t.length : Int) > 0) = true := decide_eq_true (by omega)
  have d3 : decide (n ≥ 0) = true := decide_eq_true n0
  have hmx : mx ≤ 9223372036854775807 := by have := linesUp_len t 0 []; have h2 : lines_Split.f t = some X := HX.out; unfold lines_Split.f at h2; rw [if_pos (by omega)] at h2; have h3 := Option.some.inj h2; have h4 := HXl.out; rw [← h3] at h4; simp at this; omega
  have hwn : wrap64 n = n := w64 (by omega) (by omega)
  clear hmx
  go_enter Try.func8, Try.ntmps8
  go_wp2_with first
    | (go_at_call 9; refine (seinelaw02_awake.calls true _ rfl).mono ?_; rintro e w1 ⟨rfl, hb1⟩; have HB1 := Aside0.mk hb1; have HO0 := Aside0.mk (Kd.R_nil (Kd.int .u8) 5 w1 w.heap.size (fun _ => True)); clear hb1)
    | (at_builtin; refine Kd.R_append_rows (Kd.int .u8) (w0 := w) w.heap.size rfl (.tmp 16) (.tmp 17) 22 5 (.int .u8 0) 1 rfl Try.underlying22 info5 rfl (by decide) (by decide) (.slice none 0 0) ([] : List Int) t A0 t.length c0 (fun _ => True) (fun _ => False) rfl rfl HO0.out (Kd.C_below HR0.out HB1.out) (fun _ _ h => h) (fun _ h => h.elim) (fun _ _ => trivial) HB1.out (HB1.out.size) (by simp; omega) ?_; intro v2 w2 hr2 hb2 hg2 hat2; rw [show ([] ++ t : List Int) = t from rfl] at hr2; obtain ⟨A2, c2, hv2⟩ := Kd.R_slice hr2; subst hv2; have HO2 := Aside0.mk hr2; have HB2 := Aside0.mk hb2; clear hr2 hb2 hg2 hat2)
    | (at_builtin; refine Kd.R_append (Kd.int .u8) (w0 := w) w.heap.size rfl (.tmp 19) (.tmp 20) 22 5 (.int .u8 0) 1 rfl Try.underlying22 info5 rfl (by decide) (by decide) (.slice A2 t.length c2) t 10 [.int .u8 10] (fun _ => True) (fun _ => False) rfl rfl rfl (fun _ h => h.elim) (fun _ _ => trivial) HO2.out HB2.out (HB2.out.size) (by omega) ?_; intro v3 w3 hr3 hb3 hg3 hat3; obtain ⟨A3, c3, hv3, hl3, hC3⟩ := Kd.R_reads hr3; rw [HL.out] at hv3 hl3 hC3; subst hv3; have HC3 := Aside0.mk hC3; have HK3 := Aside0.mk hl3; have HB3 := Aside0.mk hb3; clear hr3 hb3 hg3 hat3 hC3 hl3)
    | (go_at_call 10; have _t := tok1; refine (split_n A0 t.length c0 t X mx _ rfl (Kd.C_below HR0.out HB3.out) hc0 HX.out HXl.out).mono ?_; rintro e w4 ⟨Ax, cx, rfl, hlx, hCx, hb4⟩; have HKx := Aside0.mk hlx; have HCx := Aside0.mk hCx; have HC4 := Aside0.mk (Kd.C_below HC3.out hb4); have HB4 := Aside0.mk (below_step HB3.out hb4); clear hb4 hCx hlx _t tok1)
    | (go_at_call 10; refine (split_n A3 (t.length + 1) c3 (t ++ [10]) Y mx _ HL.out HC4.out HK3.out HY.out HYl.out).mono ?_; rintro e w5 ⟨Ay, cy, rfl, hly, hCy, hb5⟩; have HKy := Aside0.mk hly; have HCy := Aside0.mk hCy; have HCz := Aside0.mk (Kd.C_below HCx.out hb5); have HB5 := Aside0.mk (below_step HB4.out hb5); clear hb5 hCy hly; obtain ⟨ad, ea, hq5⟩ := Kd.at_int (Kd.C_below HR0.out HB5.out) q q0 q1; subst ea; have hqq := eq_true q0; have hqr := eq_true q1; rw [HRD.out] at hq5)
  obtain ⟨adx, A1x, c1x, ex, x0, x1, x2, x3, x4⟩ := at_T31 HCz.out n n0 n1
  obtain ⟨ady, A1y, c1y, ey, y0, y1, y2, y3, y4⟩ := at_T31 HCy.out n n0 n1
  cases ex
  cases ey
  rw [GX.out] at x0 x1 x2 x3 x4
  rw [GY.out] at y0 y1 y2 y3 y4
  have hcx := Kd.C_string (P := Try.prog) (A := A1x) (c := c1x) Try.underlying22 Try.underlying5 Try.underlying9 x4
  have hcxq := fun m => Kd.C_string (P := Try.prog) (A := A1x) (c := c1x) Try.underlying22 Try.underlying5 Try.underlying9 (Kd.C_drewN x4 m)
  have hcy := Kd.C_string (P := Try.prog) (A := A1y) (c := c1y) Try.underlying22 Try.underlying5 Try.underlying9 y4
  have hcyq := fun m => Kd.C_string (P := Try.prog) (A := A1y) (c := c1y) Try.underlying22 Try.underlying5 Try.underlying9 (Kd.C_drewN y4 m)
  have nx : n ≤ (cx : Int) := by have := HKx.out; omega
  have ny : n ≤ (cy : Int) := by have := HKy.out; omega
  have lx := HXl.out
  have ly := HYl.out
  have TX := Aside0.mk (show Kd.C k31 w5 (some adx) n.toNat (X.take n.toNat) from by
    have h := HCz.out
    rw [← lx] at h
    have h2 := Kd.C_take (m := n.toNat) h (by omega)
    rwa [List.length_take, Nat.min_eq_left (by omega)] at h2)
  have TY := Aside0.mk (show Kd.C k31 w5 (some ady) n.toNat (Y.take n.toNat) from by
    have h := HCy.out
    rw [← ly] at h
    have h2 := Kd.C_take (m := n.toNat) h (by omega)
    rwa [List.length_take, Nat.min_eq_left (by omega)] at h2)
  have LX := Aside0.mk (show (X.take n.toNat).length = n.toNat by rw [List.length_take]; omega)
  have LY := Aside0.mk (show (Y.take n.toNat).length = n.toNat by rw [List.length_take]; omega)
  have NX := Aside0.mk (show n.toNat ≤ cx by omega)
  have NY := Aside0.mk (show n.toNat ≤ cy by omega)
  clear lx ly x3 x4 y3 y4 hq5
  have n0' := eq_true n0
  have n1' := eq_true n1
  repeat (go_quiet (first
    | (go_at_call 16; refine (same_n k (some adx) n.toNat cx (X.take n.toNat) (some ady) n.toNat cy (Y.take n.toNat) _ LX.out ?s1 NX.out LY.out ?s2 NY.out HS.out).mono ?_; (case s1 => repeat (first | exact TX.out | (with_reducible refine Kd.C_drewN ?_ _) | (with_reducible refine Kd.C_drew ?_))); (case s2 => repeat (first | exact TY.out | (with_reducible refine Kd.C_drewN ?_ _) | (with_reducible refine Kd.C_drew ?_))); rintro e w' ⟨rfl, ⟨nd, rfl⟩⟩; (try first | exact ⟨rfl, _, World.drewN_drewN _ _ _⟩ | exact ⟨rfl, _, Eq.trans (World.drewN_drewN _ _ _) (congrArg (World.drewN _) (Nat.add_assoc _ _ _))⟩))); try go_wp2)
  go_ret
  exact ⟨rfl, by repeat (first | exact HB5.out | (refine pw_below_drewN ?_ _))⟩
set_option maxHeartbeats 8000000 in
set_option maxRecDepth 100000 in
theorem law_nl (A0 : Option Addr) (c0 : Nat) (t : List Int) (w : World) (X Y : List S31) (k mx my : Nat) (n : Int) (hr0 : Kd.C (Kd.int .u8) w A0 t.length t) (hc0 : t.length ≤ c0) (hlen : ¬ (t.length : Int) > 800) (hX : lines_Split.f t = some X) (hY : lines_Split.f (t ++ [10]) = some Y) (hXl : X.length = mx) (hYl : Y.length = my) (q : Int) (hq : (t.length : Int) - 1 = q) (q0 : 0 ≤ q) (q1 : q < (t.length : Int)) (hrd : rd t q = 10) (hn : (my : Int) - 1 = n) (hw : wrap64 ((mx : Int) + 1) = (my : Int)) (hwn : wrap64 n = n) (n0 : 0 ≤ n) (n1 : n < (my : Int)) (gy : rd_T31 Y n = ⟨(t.length : Int), [], true⟩) (hs : seinelaw02_same.f k X (Y.take n.toNat) 0 = some true) :
    Calls Try.prog 8 #[.slice A0 t.length c0] w fun e w' => e = .returned (.bool true) ∧ Below w.heap.size w w' := by
  have d1 : decide ((t.length : Int) > 800) = false := decide_eq_false hlen
  have HR0 := Aside0.mk hr0
  have HX := Aside0.mk hX
  have HY := Aside0.mk hY
  have HXl := Aside0.mk hXl
  have HYl := Aside0.mk hYl
  have HL := Aside0.mk (show (t ++ [10] : List Int).length = t.length + 1 by simp)
  clear hr0 hX hY hXl hYl
  have tok1 : True := trivial
  have HS := Aside0.mk hs
  have GY := Aside0.mk gy
  clear hs gy
  have HRD := Aside0.mk hrd
  clear hrd
  have d2 : decide ((t.length : Int) > 0) = true := decide_eq_true (by omega)
  go_enter Try.func8, Try.ntmps8
  go_wp2_with first
    | (go_at_call 9; refine (seinelaw02_awake.calls true _ rfl).mono ?_; rintro e w1 ⟨rfl, hb1⟩; have HB1 := Aside0.mk hb1; have HO0 := Aside0.mk (Kd.R_nil (Kd.int .u8) 5 w1 w.heap.size (fun _ => True)); clear hb1)
    | (at_builtin; refine Kd.R_append_rows (Kd.int .u8) (w0 := w) w.heap.size rfl (.tmp 16) (.tmp 17) 22 5 (.int .u8 0) 1 rfl Try.underlying22 info5 rfl (by decide) (by decide) (.slice none 0 0) ([] : List Int) t A0 t.length c0 (fun _ => True) (fun _ => False) rfl rfl HO0.out (Kd.C_below HR0.out HB1.out) (fun _ _ h => h) (fun _ h => h.elim) (fun _ _ => trivial) HB1.out (HB1.out.size) (by simp; omega) ?_; intro v2 w2 hr2 hb2 hg2 hat2; rw [show ([] ++ t : List Int) = t from rfl] at hr2; obtain ⟨A2, c2, hv2⟩ := Kd.R_slice hr2; subst hv2; have HO2 := Aside0.mk hr2; have HB2 := Aside0.mk hb2; clear hr2 hb2 hg2 hat2)
    | (at_builtin; refine Kd.R_append (Kd.int .u8) (w0 := w) w.heap.size rfl (.tmp 19) (.tmp 20) 22 5 (.int .u8 0) 1 rfl Try.underlying22 info5 rfl (by decide) (by decide) (.slice A2 t.length c2) t 10 [.int .u8 10] (fun _ => True) (fun _ => False) rfl rfl rfl (fun _ h => h.elim) (fun _ _ => trivial) HO2.out HB2.out (HB2.out.size) (by omega) ?_; intro v3 w3 hr3 hb3 hg3 hat3; obtain ⟨A3, c3, hv3, hl3, hC3⟩ := Kd.R_reads hr3; rw [HL.out] at hv3 hl3 hC3; subst hv3; have HC3 := Aside0.mk hC3; have HK3 := Aside0.mk hl3; have HB3 := Aside0.mk hb3; clear hr3 hb3 hg3 hat3 hC3 hl3)
    | (go_at_call 10; have _t := tok1; refine (split_n A0 t.length c0 t X mx _ rfl (Kd.C_below HR0.out HB3.out) hc0 HX.out HXl.out).mono ?_; rintro e w4 ⟨Ax, cx, rfl, hlx, hCx, hb4⟩; have HKx := Aside0.mk hlx; have HCx := Aside0.mk hCx; have HC4 := Aside0.mk (Kd.C_below HC3.out hb4); have HB4 := Aside0.mk (below_step HB3.out hb4); clear hb4 hCx hlx _t tok1)
    | (go_at_call 10; refine (split_n A3 (t.length + 1) c3 (t ++ [10]) Y my _ HL.out HC4.out HK3.out HY.out HYl.out).mono ?_; rintro e w5 ⟨Ay, cy, rfl, hly, hCy, hb5⟩; have HKy := Aside0.mk hly; have HCy := Aside0.mk hCy; have HCz := Aside0.mk (Kd.C_below HCx.out hb5); have HB5 := Aside0.mk (below_step HB4.out hb5); clear hb5 hCy hly; obtain ⟨ad, ea, hq5⟩ := Kd.at_int (Kd.C_below HR0.out HB5.out) q q0 q1; subst ea; have hqq := eq_true q0; have hqr := eq_true q1; rw [HRD.out] at hq5; obtain ⟨ady, A1y, c1y, ey, y0, y1, y2, y3, y4⟩ := at_T31 HCy.out n n0 n1; cases ey; rw [GY.out] at y0 y1 y2 y3 y4; simp only [List.length_nil] at y1; have ny : n ≤ (cy : Int) := (by have := HKy.out; omega); have TY := Aside0.mk (show Kd.C k31 w5 (some ady) n.toNat (Y.take n.toNat) from (by have h := HCy.out; rw [← HYl.out] at h; have h2 := Kd.C_take (m := n.toNat) h (by rw [HYl.out]; omega); rwa [List.length_take, HYl.out, Nat.min_eq_left (by omega)] at h2)); have LY := Aside0.mk (show (Y.take n.toNat).length = n.toNat by rw [List.length_take, HYl.out]; omega); have NY := Aside0.mk (show n.toNat ≤ cy by omega); clear y3 y4; have n0' := eq_true n0; have n1' := eq_true n1)
    | (go_at_call 16; refine (same_n k Ax mx cx X (some ady) n.toNat cy (Y.take n.toNat) _ HXl.out HCz.out HKx.out LY.out TY.out NY.out HS.out).mono ?_; rintro e w6 ⟨rfl, ⟨nd, rfl⟩⟩)
  go_ret
  exact ⟨rfl, by repeat (first | exact HB5.out | (refine pw_below_drewN ?_ _))⟩
set_option maxHeartbeats 8000000 in
set_option maxRecDepth 100000 in
theorem law_nil (A0 : Option Addr) (c0 : Nat) (t : List Int) (w : World) (X Y : List S31) (k mx my : Nat) (n : Int) (hr0 : Kd.C (Kd.int .u8) w A0 t.length t) (hc0 : t.length ≤ c0) (hlen : ¬ (t.length : Int) > 800) (hX : lines_Split.f t = some X) (hY : lines_Split.f (t ++ [10]) = some Y) (hXl : X.length = mx) (hYl : Y.length = my) (ht : ¬ (t.length : Int) > 0) (hn : (my : Int) - 1 = n) (hw : wrap64 ((mx : Int) + 1) = (my : Int)) (hwn : wrap64 n = n) (n0 : 0 ≤ n) (n1 : n < (my : Int)) (gy : rd_T31 Y n = ⟨(t.length : Int), [], true⟩) (hs : seinelaw02_same.f k X (Y.take n.toNat) 0 = some true) :
    Calls Try.prog 8 #[.slice A0 t.length c0] w fun e w' => e = .returned (.bool true) ∧ Below w.heap.size w w' := by
  have d1 : decide ((t.length : Int) > 800) = false := decide_eq_false hlen
  have HR0 := Aside0.mk hr0
  have HX := Aside0.mk hX
  have HY := Aside0.mk hY
  have HXl := Aside0.mk hXl
  have HYl := Aside0.mk hYl
  have HL := Aside0.mk (show (t ++ [10] : List Int).length = t.length + 1 by simp)
  clear hr0 hX hY hXl hYl
  have tok1 : True := trivial
  have HS := Aside0.mk hs
  have GY := Aside0.mk gy
  clear hs gy
  have d2 : decide ((t.length : Int) > 0) = false := decide_eq_false ht
  go_enter Try.func8, Try.ntmps8
  go_wp2_with first
    | (go_at_call 9; refine (seinelaw02_awake.calls true _ rfl).mono ?_; rintro e w1 ⟨rfl, hb1⟩; have HB1 := Aside0.mk hb1; have HO0 := Aside0.mk (Kd.R_nil (Kd.int .u8) 5 w1 w.heap.size (fun _ => True)); clear hb1)
    | (at_builtin; refine Kd.R_append_rows (Kd.int .u8) (w0 := w) w.heap.size rfl (.tmp 16) (.tmp 17) 22 5 (.int .u8 0) 1 rfl Try.underlying22 info5 rfl (by decide) (by decide) (.slice none 0 0) ([] : List Int) t A0 t.length c0 (fun _ => True) (fun _ => False) rfl rfl HO0.out (Kd.C_below HR0.out HB1.out) (fun _ _ h => h) (fun _ h => h.elim) (fun _ _ => trivial) HB1.out (HB1.out.size) (by simp; omega) ?_; intro v2 w2 hr2 hb2 hg2 hat2; rw [show ([] ++ t : List Int) = t from rfl] at hr2; obtain ⟨A2, c2, hv2⟩ := Kd.R_slice hr2; subst hv2; have HO2 := Aside0.mk hr2; have HB2 := Aside0.mk hb2; clear hr2 hb2 hg2 hat2)
    | (at_builtin; refine Kd.R_append (Kd.int .u8) (w0 := w) w.heap.size rfl (.tmp 19) (.tmp 20) 22 5 (.int .u8 0) 1 rfl Try.underlying22 info5 rfl (by decide) (by decide) (.slice A2 t.length c2) t 10 [.int .u8 10] (fun _ => True) (fun _ => False) rfl rfl rfl (fun _ h => h.elim) (fun _ _ => trivial) HO2.out HB2.out (HB2.out.size) (by omega) ?_; intro v3 w3 hr3 hb3 hg3 hat3; obtain ⟨A3, c3, hv3, hl3, hC3⟩ := Kd.R_reads hr3; rw [HL.out] at hv3 hl3 hC3; subst hv3; have HC3 := Aside0.mk hC3; have HK3 := Aside0.mk hl3; have HB3 := Aside0.mk hb3; clear hr3 hb3 hg3 hat3 hC3 hl3)
    | (go_at_call 10; have _t := tok1; refine (split_n A0 t.length c0 t X mx _ rfl (Kd.C_below HR0.out HB3.out) hc0 HX.out HXl.out).mono ?_; rintro e w4 ⟨Ax, cx, rfl, hlx, hCx, hb4⟩; have HKx := Aside0.mk hlx; have HCx := Aside0.mk hCx; have HC4 := Aside0.mk (Kd.C_below HC3.out hb4); have HB4 := Aside0.mk (below_step HB3.out hb4); clear hb4 hCx hlx _t tok1)
    | (go_at_call 10; refine (split_n A3 (t.length + 1) c3 (t ++ [10]) Y my _ HL.out HC4.out HK3.out HY.out HYl.out).mono ?_; rintro e w5 ⟨Ay, cy, rfl, hly, hCy, hb5⟩; have HKy := Aside0.mk hly; have HCy := Aside0.mk hCy; have HCz := Aside0.mk (Kd.C_below HCx.out hb5); have HB5 := Aside0.mk (below_step HB4.out hb5); clear hb5 hCy hly; obtain ⟨ady, A1y, c1y, ey, y0, y1, y2, y3, y4⟩ := at_T31 HCy.out n n0 n1; cases ey; rw [GY.out] at y0 y1 y2 y3 y4; simp only [List.length_nil] at y1; have ny : n ≤ (cy : Int) := (by have := HKy.out; omega); have TY := Aside0.mk (show Kd.C k31 w5 (some ady) n.toNat (Y.take n.toNat) from (by have h := HCy.out; rw [← HYl.out] at h; have h2 := Kd.C_take (m := n.toNat) h (by rw [HYl.out]; omega); rwa [List.length_take, HYl.out, Nat.min_eq_left (by omega)] at h2)); have LY := Aside0.mk (show (Y.take n.toNat).length = n.toNat by rw [List.length_take, HYl.out]; omega); have NY := Aside0.mk (show n.toNat ≤ cy by omega); clear y3 y4; have n0' := eq_true n0; have n1' := eq_true n1)
    | (go_at_call 16; refine (same_n k Ax mx cx X (some ady) n.toNat cy (Y.take n.toNat) _ HXl.out HCz.out HKx.out LY.out TY.out NY.out HS.out).mono ?_; rintro e w6 ⟨rfl, ⟨nd, rfl⟩⟩)
  go_ret
  exact ⟨rfl, by repeat (first | exact HB5.out | (refine pw_below_drewN ?_ _))⟩
theorem same_up (ys : List S31) (hl : ys.length ≤ 100000) (hb : ∀ y ∈ ys, 0 ≤ y.f0 ∧ y.f0 ≤ 100000) (e : Nat) : ∀ n : Nat, n + e = ys.length →
    ∃ k, seinelaw02_same.l0 k ys ys 0 (n : Int) = some true := by
  induction e with
  | zero =>
    intro n hn
    exact ⟨1, by simp only [seinelaw02_same.l0, if_neg (show ¬ (n : Int) < (ys.length : Int) by omega)]⟩
  | succ e ih =>
    intro n hn
    obtain ⟨k, hk⟩ := ih (n + 1) (by omega)
    have h2 : rd_T31 ys (n : Int) = ys[n]'(by omega) := by
      unfold rd_T31; rw [Int.toNat_natCast, List.getD_eq_getElem?_getD, List.getElem?_eq_getElem (show n < ys.length by omega)]; rfl
    have h3 := hb (ys[n]'(by omega)) (List.getElem_mem _)
    have h4 : wrap64 ((ys[n]'(by omega)).f0 + 0) = (ys[n]'(by omega)).f0 := by unfold wrap64; omega
    have h5 : wrap64 ((n : Int) + 1) = ((n + 1 : Nat) : Int) := by unfold wrap64; omega
    refine ⟨k + 1, ?_⟩
    simp only [seinelaw02_same.l0, if_pos (show (n : Int) < (ys.length : Int) by omega), if_pos (show (0 : Int) ≤ (n : Int) by omega), h2, h4, h5, if_true, bne_self_eq_false, Bool.false_eq_true, if_false]
    exact hk
theorem law_long (A0 : Option Addr) (c0 n0 : Nat) (w : World) (h : (n0 : Int) > 800) : Calls Try.prog 8 #[.slice A0 n0 c0] w fun e w' => e = .returned (.bool true) ∧ Below w.heap.size w w' := by
  have d1 : decide ((n0 : Int) > 800) = true := decide_eq_true h
  go_enter Try.func8, Try.ntmps8
  go_wp2_with fail
  refine (seinelaw02_awake.calls true _ rfl).mono ?_
  rintro e w1 ⟨rfl, hb1⟩
  go_wp2
  go_ret
  exact ⟨rfl, hb1⟩
theorem rd_last (p : List S31) (z : S31) (n : Int) (hn : n = (p.length : Int)) : rd_T31 (p ++ [z]) n = z := by
  subst hn
  unfold rd_T31
  rw [Int.toNat_natCast, List.getD_eq_getElem?_getD, List.getElem?_append_right (Nat.le_refl _)]
  simp
theorem law_last (A0 : Option Addr) (c0 : Nat) (t : List Int) (w : World) (hr0 : Kd.C (Kd.int .u8) w A0 t.length t) (hc0 : t.length ≤ c0) : Calls Try.prog 8 #[.slice A0 t.length c0] w fun e w' => e = .returned (.bool true) ∧ Below w.heap.size w w' := by
  by_cases hlen : (t.length : Int) > 800
  · exact law_long A0 c0 _ w hlen
  have l1 : (t ++ [10] : List Int).length = t.length + 1 := by simp
  have hX : lines_Split.f t = some (linesUp t 0 []) := by unfold lines_Split.f; rw [if_pos (by omega)]
  have hY : lines_Split.f (t ++ [10]) = some (linesUp (t ++ [10]) 0 []) := by unfold lines_Split.f; rw [if_pos (by omega)]
  have n1 := linesUp_len t 0 []
  simp only [List.length_nil, Nat.zero_add] at n1
  have o1 : ∀ y ∈ linesUp t 0 [], 0 ≤ y.f0 ∧ y.f0 ≤ 100000 := by
    intro y hy
    have := up_offs t 0 [] (by omega) y hy
    simp at this
    omega
  have closed : openE t (decide (([] : List Int) ≠ [])) = false → ∃ k, linesUp (t ++ [10]) 0 [] = linesUp t 0 [] ++ [⟨(t.length : Int), [], true⟩] ∧ seinelaw02_same.f k (linesUp t 0 []) (linesUp t 0 []) 0 = some true := by
    intro ho
    obtain ⟨k, hk⟩ := same_up (linesUp t 0 []) (by omega) o1 _ 0 (Nat.zero_add _)
    refine ⟨k, ?_, by unfold seinelaw02_same.f; rw [if_pos rfl]; exact hk⟩
    have hU := up_closed t 0 [] ho
    rw [show (0 : Int) + (([] : List Int).length : Int) + (t.length : Int) = (t.length : Int) by simp] at hU
    exact hU
  by_cases h : 0 < t.length
  · obtain ⟨a, c, e, hr⟩ := last_rd t h
    have ho : openE t (decide (([] : List Int) ≠ [])) = decide (c ≠ 10) := by rw [e]; exact openE_snoc a c _
    by_cases hc : c = 10
    · obtain ⟨k, hU, hs⟩ := closed (by rw [ho]; simp [hc])
      have hyl : (linesUp (t ++ [10]) 0 []).length = (linesUp t 0 []).length + 1 := by rw [hU]; simp
      refine law_nl A0 c0 t w _ _ k _ _ ((linesUp t 0 []).length : Int) hr0 hc0 hlen hX hY rfl hyl ((t.length : Int) - 1) rfl (by omega) (by omega) (by rw [hr]; exact hc) (by omega) (by rw [w64 (by omega) (by omega)]; omega) (w64 (by omega) (by omega)) (by omega) (by omega) (by rw [hU]; exact rd_last _ _ _ rfl) ?_
      rw [hU, Int.toNat_natCast, List.take_left]
      exact hs
    · obtain ⟨p, o, x, u1, u2⟩ := up_open t 0 [] (by rw [ho]; simp [hc])
      rw [u1] at n1 o1 hX
      rw [u2] at hY
      simp only [List.length_append, List.length_singleton] at n1
      obtain ⟨k, hk⟩ := same_up p (by omega) (fun y hy => o1 y (List.mem_append.mpr (Or.inl hy))) _ 0 (Nat.zero_add _)
      refine law_open A0 c0 t w _ _ k (p.length + 1) (p.length : Int) hr0 hc0 hlen hX hY (by simp) (by simp) ((t.length : Int) - 1) c o x rfl (by omega) (by omega) hr hc (by omega) (by omega) (by omega) (rd_last _ _ _ rfl) (rd_last _ _ _ rfl) ?_
      rw [Int.toNat_natCast, List.take_left, List.take_left]
      unfold seinelaw02_same.f
      rw [if_pos rfl]
      exact hk
  · have e : t = [] := List.length_eq_zero_iff.mp (by omega)
    obtain ⟨k, hU, hs⟩ := closed (by rw [e]; rfl)
    have hyl : (linesUp (t ++ [10]) 0 []).length = (linesUp t 0 []).length + 1 := by rw [hU]; simp
    refine law_nil A0 c0 t w _ _ k _ _ ((linesUp t 0 []).length : Int) hr0 hc0 hlen hX hY rfl hyl (by omega) (by omega) (by rw [w64 (by omega) (by omega)]; omega) (w64 (by omega) (by omega)) (by omega) (by omega) (by rw [hU]; exact rd_last _ _ _ rfl) ?_
    rw [hU, Int.toNat_natCast, List.take_left]
    exact hs
def seinelaw02_LinesLast.f (l0 : List Int) : Option Bool := some true
theorem seinelaw02_LinesLast.calls (A0 : Option Addr) (c0 : Nat) (l0 : List Int) (r : Bool) (w : World) (hr0 : Kd.C (Kd.int .u8) w A0 l0.length l0) (hc0 : l0.length ≤ c0) (h : seinelaw02_LinesLast.f l0 = some r) :
    Calls Try.prog 8 #[.slice A0 l0.length c0] w fun e w' => e = .returned (.bool r) ∧ Below w.heap.size w w' := by
  obtain rfl := Option.some.inj h
  exact law_last A0 c0 l0 w hr0 hc0
end

end Go.Proofs.Ytccpobbebfgpbaa.PLinesLast
