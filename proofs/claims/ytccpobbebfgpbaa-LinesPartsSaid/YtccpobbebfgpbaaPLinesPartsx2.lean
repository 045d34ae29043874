/- Functions of the translation and what they come to: laid by a program of this session (xprint.py) beside contracts proved by hand. No condition. -/
import Derived.Test.YtccpobbebfgpbaaPLinesPartsx0
import Derived.Test.YtccpobbebfgpbaaPLinesPartsx1
namespace Go.Proofs.Ytccpobbebfgpbaa.PLinesParts
open Go.RowKit Go.Proofs.YtccpobbebfgpbaaW.PrintWords Go.Proofs.YtccpobbebfgpbaaW.PrintLast Go.Proofs.YtccpobbebfgpbaaW.PrintMore
attribute [local go_sem] max2_int min2_int max_two min_two max_three min_three max_four min_four   -- for this text's walks alone
set_option linter.unusedVariables false
set_option linter.unusedSimpArgs false

theorem const_reads (w : World) (xs : List Int) (e : TypeId) (fr : Nat × Nat) (hm : xs.length ≤ 9223372036854775807) :
    Kd.C (Kd.int .u8) (w.alloc (.cells (xs.map (Value.int .u8)).toArray e fr)) (some ⟨w.heap.size, 0, none⟩) xs.length xs := by
  refine Kd.C_of_reads (d := (0 : Int)) (h1 := fun _ => rfl) ⟨rfl, hm, fun _ => ⟨_, rfl, fun j hj => ?_⟩⟩
  rw [add_plain, World.cell?_alloc_mark]
  simp [List.getD_eq_getElem?_getD, List.getElem?_eq_getElem hj]
def wa0 : List Int := [97, 10, 10, 98]
def wa1 : List Int := [97, 10]
def wa2 : List Int := [97, 10, 98]
def wa3 : List Int := [97]
def wl0 : List S31 := [⟨0, [97], true⟩, ⟨2, [], true⟩, ⟨3, [98], false⟩]
set_option maxHeartbeats 8000000 in
set_option maxRecDepth 100000 in
theorem awake_calls (w : World) :
    Calls Try.prog 9 #[] w fun e w' => e = .returned (.bool true) ∧ Below w.heap.size w w' := by
  have hu31 := Try.underlying31
  have kc := fun (w : World) (C : Array Value) (n c : Nat) => Lib.run_convert_bytes_const (P := Try.prog) w 22 5 C n c Try.underlying22 Try.underlying5
  have kc1 := kc w #[.int .u8 97, .int .u8 10, .int .u8 10, .int .u8 98] 4 4
  have HS := Aside0.mk (lines_Split.calls (some ⟨w.heap.size, 0, none⟩) 4 wa0 wl0 (w.alloc (.cells (wa0.map (Value.int .u8)).toArray 5 (4, 5))) (const_reads w wa0 5 (4, 5) (by decide)) (by decide) (by unfold lines_Split.f; rw [if_pos (by decide)]; rfl))
  have HB0 := Aside0.mk (below_alloc (Below.refl w.heap.size w) (.cells (wa0.map (Value.int .u8)).toArray 5 (4, 5)))
  go_enter Try.func9, Try.ntmps9
  go_wp2_with fail
  refine HS.out.mono ?_
  rintro e w1 ⟨v1, rfl, hs1, hb1⟩
  have hr1 := Kd.S_R hs1
  clear hs1
  obtain ⟨g, cap, rfl, _⟩ := Kd.R_form hr1 (by decide)
  obtain ⟨_, _, hC1⟩ := Kd.R_reads' hr1
  obtain ⟨ad0, A0, c0, e0, p0, p1, p2, p3, p4⟩ := at_T31 hC1 0 (by decide) (by decide)
  obtain ⟨ad1, A1, c1, e1, q0, q1, q2, q3, q4⟩ := at_T31 hC1 1 (by decide) (by decide)
  obtain ⟨ad2, A2, c2, e2, r0, r1, r2, r3, r4⟩ := at_T31 hC1 2 (by decide) (by decide)
  cases e0
  cases e1
  cases e2
  have s0 := Kd.C_string (P := Try.prog) (A := A0) (c := c0) Try.underlying22 Try.underlying5 Try.underlying9 p4
  have d0 : rd_T31 wl0 0 = ⟨0, [97], true⟩ := rfl
  have d1 : rd_T31 wl0 1 = ⟨2, [], true⟩ := rfl
  have d2 : rd_T31 wl0 2 = ⟨3, [98], false⟩ := rfl
  rw [d0] at p0 p1 p2 p3 p4 s0
  rw [d1] at q0 q1 q2 q3 q4
  rw [d2] at r0 r1 r2 r3 r4
  simp [Addr.add] at p0 p1 p2 q0 q1 q2 r0 r1 r2
  have hss : strOfNums [97] = ⟨#[97]⟩ := by decide +kernel
  rw [hss] at s0
  have s0' : (convert 22 9 (.slice A0 1 c0)).run Try.prog w1 = .ok (.string ⟨#[97]⟩) w1 := s0
  clear s0
  have HB1 := Aside0.mk (below_step HB0.out hb1)
  clear hr1 hC1 hb1 p4 q4 r4 p3 q3 r3 kc1 HS HB0
  have kc2 := kc w1 #[.int .u8 97, .int .u8 10] 2 2
  go_wp2_with fail
  refine (lines_Count.calls 20 (some ⟨w1.heap.size, 0, none⟩) 2 wa1 1 (w1.alloc (.cells (wa1.map (Value.int .u8)).toArray 5 (2, 3))) (const_reads w1 wa1 5 (2, 3) (by decide)) (by decide) (by decide +kernel)).mono ?_
  rintro e w2 ⟨rfl, hd⟩
  have HB2 := Aside0.mk (below_step (below_alloc HB1.out (.cells (wa1.map (Value.int .u8)).toArray 5 (2, 3))) hd.below)
  clear hd kc2 s0' p0 p1 p2 q0 q1 q2 r0 r1 r2
  have kc3 := kc w2 #[.int .u8 97, .int .u8 10, .int .u8 98] 3 3
  go_wp2_with fail
  refine (lines_Bare.calls 20 (some ⟨w2.heap.size, 0, none⟩) 3 wa2 2 (w2.alloc (.cells (wa2.map (Value.int .u8)).toArray 5 (3, 4))) (const_reads w2 wa2 5 (3, 4) (by decide)) (by decide) (by decide +kernel)).mono ?_
  rintro e w3 ⟨rfl, hd⟩
  have HB3 := Aside0.mk (below_step (below_alloc HB2.out (.cells (wa2.map (Value.int .u8)).toArray 5 (3, 4))) hd.below)
  clear hd kc3
  have kc4 := kc w3 #[.int .u8 97] 1 1
  have hC4 := const_reads w3 wa3 5 (1, 2) (by decide)
  have hJ : Kd.C (Kd.slice 5 (Kd.int .u8)) ((w3.alloc (.cells (wa3.map (Value.int .u8)).toArray 5 (1, 2))).alloc (.cells #[.slice (some ⟨w3.heap.size, 0, none⟩) 1 1, .slice none 0 0] 22)) (some ⟨w3.heap.size + 1, 0, none⟩) 2 [wa3, []] := by
    refine ⟨rfl, by decide, fun _ => ⟨_, rfl, fun j p hj => ?_⟩⟩
    have hb := blk_new (w3.alloc (.cells (wa3.map (Value.int .u8)).toArray 5 (1, 2))) (.cells #[.slice (some ⟨w3.heap.size, 0, none⟩) 1 1, .slice none 0 0] 22)
    rw [World.size_alloc] at hb
    have h0 := (blk_cell hb 0)
    have h1 := (blk_cell hb 1)
    match j, hj with
    | 0, hj =>
      cases hj
      exact ⟨[.slice (some ⟨w3.heap.size, 0, none⟩) 1 1], rfl, ⟨_, _, rfl, by decide, Kd.C_alloc hC4 _⟩, fun i u hu => by
        match i, hu with
        | 0, hu => cases hu; exact h0⟩
    | 1, hj =>
      cases hj
      exact ⟨[.slice none 0 0], rfl, ⟨_, _, rfl, by decide, Kd.C_nil _ _⟩, fun i u hu => by
        match i, hu with
        | 0, hu => cases hu; exact h1⟩
  have HJ := Aside0.mk (lines_Join.calls 20 (some ⟨w3.heap.size + 1, 0, none⟩) 2 [wa3, []] [97, 10, 10] _ hJ (by decide) (by decide +kernel))
  have HBJ := Aside0.mk (below_alloc (below_alloc HB3.out (.cells (wa3.map (Value.int .u8)).toArray 5 (1, 2))) (.cells #[.slice (some ⟨w3.heap.size, 0, none⟩) 1 1, .slice none 0 0] 22))
  clear hJ hC4
  go_wp2_with fail
  refine HJ.out.mono ?_
  rintro e w4 ⟨v4, rfl, hr4, hb4⟩
  obtain ⟨A4, c4, rfl, hd4, hC4⟩ := Kd.R_reads hr4
  have hcv := Kd.C_string (P := Try.prog) (A := A4) (c := c4) Try.underlying22 Try.underlying5 Try.underlying9 hC4
  have hss : strOfNums [97, 10, 10] = ⟨#[97, 10, 10]⟩ := by decide +kernel
  rw [hss] at hcv
  have hcv' : (convert 22 9 (.slice A4 3 c4)).run Try.prog w4 = .ok (.string ⟨#[97, 10, 10]⟩) w4 := hcv
  have HB4 := Aside0.mk (below_step HBJ.out hb4)
  clear hcv hss hr4 hb4 hC4 hd4 kc4 HJ HBJ
  go_wp2
  go_ret
  exact ⟨rfl, HB4.out⟩
def seinelaw02_awake.f : Option Bool := some true
theorem seinelaw02_awake.calls (r : Bool) (w : World) (h : seinelaw02_awake.f = some r) :
    Calls Try.prog 9 #[] w fun e w' => e = .returned (.bool r) ∧ Below w.heap.size w w' := by
  obtain rfl := Option.some.inj h
  exact awake_calls w

/-! ### seinelaw02_same: function 16 -/
def seinelaw02_same.l0 : Nat → List (S31) → List (S31) → Int → Int → Option (Bool)
  | 0, _, _, _, _ => none
  | k + 1, x0, x1, x2, x7 => if x7 < (x0.length : Int) then (if 0 ≤ x7 then (if x7 < (x1.length : Int) then (if ((rd_T31 x0 x7).f0) = (wrap64 (((rd_T31 x1 x7).f0) + x2)) then (if (strOfNums ((rd_T31 x0 x7).f1)).toList = (strOfNums ((rd_T31 x1 x7).f1)).toList then (if (((rd_T31 x0 x7).f2) != ((rd_T31 x1 x7).f2)) = true then (some false) else (seinelaw02_same.l0 k x0 x1 x2 (wrap64 (x7 + 1)))) else (some false)) else (some false)) else (none)) else (none)) else (some true)
def seinelaw02_same.f (k : Nat) (l0 : List (S31)) (l1 : List (S31)) (a2 : Int) : Option (Bool) := if (l0.length : Int) = (l1.length : Int) then (seinelaw02_same.l0 k l0 l1 a2 0) else (some false)
theorem seinelaw02_same.mono_l : ∀ k, (∀ y0 y1 y2 y3, LeO (seinelaw02_same.l0 k y0 y1 y2 y3) (seinelaw02_same.l0 (k + 1) y0 y1 y2 y3))
  | 0 => fun _ _ _ _ r h => by simp [seinelaw02_same.l0] at h
  | k + 1 => by
    have ih0 := seinelaw02_same.mono_l k
    · intro y0 y1 y2 y3
      unfold seinelaw02_same.l0
      repeat' first
      | (with_reducible exact ih0 _ _ _ _)
      | (with_reducible exact LeO.refl _)
      | (with_reducible exact LeO.none _)
      | (with_reducible refine LeO.ite ?_ ?_)
      | (with_reducible refine LeO.bind ?_ (fun _ => ?_))
      | exact ih0 _ _ _ _
      | exact LeO.none _
      | refine LeO.ite ?_ ?_
      | refine LeO.bind ?_ (fun _ => ?_)
theorem seinelaw02_same.mono : ∀ a0 a1 a2 k, LeO (seinelaw02_same.f k a0 a1 a2) (seinelaw02_same.f (k + 1) a0 a1 a2) := by
  intro a0 a1 a2 k
  have ih0 := seinelaw02_same.mono_l k
  unfold seinelaw02_same.f
  repeat' first
      | (with_reducible exact ih0 _ _ _ _)
      | (with_reducible exact LeO.refl _)
      | (with_reducible exact LeO.none _)
      | (with_reducible refine LeO.ite ?_ ?_)
      | (with_reducible refine LeO.bind ?_ (fun _ => ?_))
      | exact ih0 _ _ _ _
      | exact LeO.none _
      | refine LeO.ite ?_ ?_
      | refine LeO.bind ?_ (fun _ => ?_)
set_option maxHeartbeats 8000000 in
set_option maxRecDepth 100000 in
theorem seinelaw02_same.calls (k : Nat) (A0 : Option Addr) (c0 : Nat) (l0 : List (S31)) (A1 : Option Addr) (c1 : Nat) (l1 : List (S31)) (a2 : Int) (r : Bool) (w : World) (hr0 : Kd.C k31 w A0 l0.length l0) (hc0 : l0.length ≤ c0) (hr1 : Kd.C k31 w A1 l1.length l1) (hc1 : l1.length ≤ c1) (h : seinelaw02_same.f k l0 l1 a2 = some r) :
    Calls Try.prog 16 #[.slice A0 l0.length c0, .slice A1 l1.length c1, .int .i64 a2] w fun e w' => e = .returned (.bool r) ∧ Drawn0 w w' := by
  have HR0 := Aside0.mk hr0
  have HC0 := Aside0.mk hc0
  clear hr0 hc0
  have HR1 := Aside0.mk hr1
  have HC1 := Aside0.mk hc1
  clear hr1 hc1
  have H : (if (l0.length : Int) = (l1.length : Int) then (seinelaw02_same.l0 k l0 l1 a2 0) else (some false)) = some r := h
  clear h
  by_cases c4 : (l0.length : Int) = (l1.length : Int)
  · rw [if_pos c4] at H
    have c4b0 : ((l0.length : Int) == (l1.length : Int)) = true := beq_iff_eq.mpr c4
    have c4b1 : ((l0.length : Int) != (l1.length : Int)) = false := bne_eq_false_iff_eq.mpr c4
    have c4b2 : (l0.length == l1.length) = true := by first | simpa using c4 | (simp at c4 ⊢; omega)
    clear c4
    have H' := Aside0.mk H
    clear H
    go_enter Try.func16, Try.ntmps16
    go_wp2
    repeat (go_quiet (fail); try go_wp2)
    go_loopg [7] k (fun kq v7 w' => ∃ (x7_1 : Int), v7 = .int .i64 x7_1 ∧ Aside0 (seinelaw02_same.l0 kq l0 l1 a2 x7_1 = some r) ∧ Aside0 (kq ≤ k) ∧ Drawn0 w w')
    case atStart => exact ⟨(0), (by first | rfl | (simp; done) | (simp [*]; done) | (simp; exact (by intro a b; cases a <;> cases b <;> rfl : ∀ a b : Bool, (a == b) = (!(a != b))) _ _)), H', ⟨Nat.le_refl _⟩, by repeat (first | exact Drawn0.refl _ | apply Drawn0.step)⟩
    case round =>
      clear H'
      try clear c1
      try clear p2
      try clear c4
      try clear c4b0
      try clear c4b1
      try clear c4b2
      obtain ⟨x7_1, rfl, HA, HK1, ⟨m1, rfl⟩⟩ := hrel
      cases gk with
      | zero => exact absurd HA.out (by simp [seinelaw02_same.l0])
      | succ k1 =>
        have H := HA.out
        clear HA
        simp only [seinelaw02_same.l0] at H
        by_cases c5 : x7_1 < (l0.length : Int)
        · rw [if_pos c5] at H
          have c5b0 : decide (x7_1 < (l0.length : Int)) = true := decide_eq_true c5
          clear c5
          by_cases c6 : 0 ≤ x7_1
          · rw [if_pos c6] at H
            have c6b0 : decide (0 ≤ x7_1) = true := decide_eq_true c6
            clear c6
            by_cases c7 : x7_1 < (l1.length : Int)
            · rw [if_pos c7] at H
              have c7b0 : decide (x7_1 < (l1.length : Int)) = true := decide_eq_true c7
              clear c7
              by_cases c8 : ((rd_T31 l0 x7_1).f0) = (wrap64 (((rd_T31 l1 x7_1).f0) + a2))
              · rw [if_pos c8] at H
                have c8b0 : (((rd_T31 l0 x7_1).f0) == (wrap64 (((rd_T31 l1 x7_1).f0) + a2))) = true := beq_iff_eq.mpr c8
                have c8b1 : (((rd_T31 l0 x7_1).f0) != (wrap64 (((rd_T31 l1 x7_1).f0) + a2))) = false := bne_eq_false_iff_eq.mpr c8
                clear c8
                by_cases c9 : (strOfNums ((rd_T31 l0 x7_1).f1)).toList = (strOfNums ((rd_T31 l1 x7_1).f1)).toList
                · rw [if_pos c9] at H
                  have c9b0 : ((strOfNums ((rd_T31 l0 x7_1).f1)).toList == (strOfNums ((rd_T31 l1 x7_1).f1)).toList) = true := beq_iff_eq.mpr c9
                  have c9b1 : ((strOfNums ((rd_T31 l0 x7_1).f1)).toList != (strOfNums ((rd_T31 l1 x7_1).f1)).toList) = false := bne_eq_false_iff_eq.mpr c9
                  clear c9
                  by_cases c10 : (((rd_T31 l0 x7_1).f2) != ((rd_T31 l1 x7_1).f2)) = true
                  · rw [if_pos c10] at H
                    have c10b0 : (((rd_T31 l0 x7_1).f2) != ((rd_T31 l1 x7_1).f2)) = true := c10
                    (try (have c10b1 : decide (((rd_T31 l0 x7_1).f2) = ((rd_T31 l1 x7_1).f2)) = false := by simpa using c10))
                    (try (have c10b2 : (((rd_T31 l0 x7_1).f2) == ((rd_T31 l1 x7_1).f2)) = false := by simpa using c10))
                    (try (have c10b3 : ¬ (((rd_T31 l0 x7_1).f2) = ((rd_T31 l1 x7_1).f2)) := by simpa using c10))
                    clear c10
                    obtain rfl := Option.some.inj H
                    have p112 : 0 ≤ (x7_1 : Int) := of_decide_eq_true (by first | (with_reducible assumption) | assumption)
                    have q112 : x7_1 < (l0.length : Int) := of_decide_eq_true (by first | (with_reducible assumption) | assumption)
                    obtain ⟨ad112, A112_1, c112_1, e112, hx112_0, hx112_1, hx112_2, hl112_1, hi112_1⟩ := at_T31 HR0.out x7_1 p112 q112
                    cases e112
                    have HR112_1 := Aside0.mk hi112_1
                    have HC112_1 := Aside0.mk hl112_1
                    clear hi112_1 hl112_1
                    replace p112 := eq_true p112
                    replace q112 := eq_true q112
                    have p113 : 0 ≤ (x7_1 : Int) := of_decide_eq_true (by first | (with_reducible assumption) | assumption)
                    have q113 : x7_1 < (l1.length : Int) := of_decide_eq_true (by first | (with_reducible assumption) | assumption)
                    obtain ⟨ad113, A113_1, c113_1, e113, hx113_0, hx113_1, hx113_2, hl113_1, hi113_1⟩ := at_T31 HR1.out x7_1 p113 q113
                    cases e113
                    have HR113_1 := Aside0.mk hi113_1
                    have HC113_1 := Aside0.mk hl113_1
                    clear hi113_1 hl113_1
                    replace p113 := eq_true p113
                    replace q113 := eq_true q113
                    have p114 : 0 ≤ (x7_1 : Int) := of_decide_eq_true (by first | (with_reducible assumption) | assumption)
                    have q114 : x7_1 < (l0.length : Int) := of_decide_eq_true (by first | (with_reducible assumption) | assumption)
                    obtain ⟨ad114, A114_1, c114_1, e114, hx114_0, hx114_1, hx114_2, hl114_1, hi114_1⟩ := at_T31 HR0.out x7_1 p114 q114
                    obtain rfl : ad112 = ad114 := (by injection e114)
                    have HR114_1 := Aside0.mk hi114_1
                    have HC114_1 := Aside0.mk hl114_1
                    clear hi114_1 hl114_1
                    replace p114 := eq_true p114
                    replace q114 := eq_true q114
                    have ea_ := Option.some.inj (hx112_1.symm.trans hx114_1)
                    injection ea_ with ea_ en_ ec_
                    subst ea_
                    subst ec_
                    clear en_
                    have hcv11 := Kd.C_string (P := Try.prog) (A := A112_1) (c := c112_1) Try.underlying22 Try.underlying5 Try.underlying9 HR114_1.out
                    have hcvq11 := fun m => Kd.C_string (P := Try.prog) (A := A112_1) (c := c112_1) Try.underlying22 Try.underlying5 Try.underlying9 (Kd.C_drewN HR114_1.out m)
                    have p115 : 0 ≤ (x7_1 : Int) := of_decide_eq_true (by first | (with_reducible assumption) | assumption)
                    have q115 : x7_1 < (l1.length : Int) := of_decide_eq_true (by first | (with_reducible assumption) | assumption)
                    obtain ⟨ad115, A115_1, c115_1, e115, hx115_0, hx115_1, hx115_2, hl115_1, hi115_1⟩ := at_T31 HR1.out x7_1 p115 q115
                    obtain rfl : ad113 = ad115 := (by injection e115)
                    have HR115_1 := Aside0.mk hi115_1
                    have HC115_1 := Aside0.mk hl115_1
                    clear hi115_1 hl115_1
                    replace p115 := eq_true p115
                    replace q115 := eq_true q115
                    have ea_ := Option.some.inj (hx113_1.symm.trans hx115_1)
                    injection ea_ with ea_ en_ ec_
                    subst ea_
                    subst ec_
                    clear en_
                    have hcv12 := Kd.C_string (P := Try.prog) (A := A113_1) (c := c113_1) Try.underlying22 Try.underlying5 Try.underlying9 HR115_1.out
                    have hcvq12 := fun m => Kd.C_string (P := Try.prog) (A := A113_1) (c := c113_1) Try.underlying22 Try.underlying5 Try.underlying9 (Kd.C_drewN HR115_1.out m)
                    have p116 : 0 ≤ (x7_1 : Int) := of_decide_eq_true (by first | (with_reducible assumption) | assumption)
                    have q116 : x7_1 < (l0.length : Int) := of_decide_eq_true (by first | (with_reducible assumption) | assumption)
                    obtain ⟨ad116, A116_1, c116_1, e116, hx116_0, hx116_1, hx116_2, hl116_1, hi116_1⟩ := at_T31 HR0.out x7_1 p116 q116
                    obtain rfl : ad112 = ad116 := (by injection e116)
                    have HR116_1 := Aside0.mk hi116_1
                    have HC116_1 := Aside0.mk hl116_1
                    clear hi116_1 hl116_1
                    replace p116 := eq_true p116
                    replace q116 := eq_true q116
                    have ea_ := Option.some.inj (hx112_1.symm.trans hx116_1)
                    injection ea_ with ea_ en_ ec_
                    subst ea_
                    subst ec_
                    clear en_
                    have p117 : 0 ≤ (x7_1 : Int) := of_decide_eq_true (by first | (with_reducible assumption) | assumption)
                    have q117 : x7_1 < (l1.length : Int) := of_decide_eq_true (by first | (with_reducible assumption) | assumption)
                    obtain ⟨ad117, A117_1, c117_1, e117, hx117_0, hx117_1, hx117_2, hl117_1, hi117_1⟩ := at_T31 HR1.out x7_1 p117 q117
                    obtain rfl : ad113 = ad117 := (by injection e117)
                    have HR117_1 := Aside0.mk hi117_1
                    have HC117_1 := Aside0.mk hl117_1
                    clear hi117_1 hl117_1
                    replace p117 := eq_true p117
                    replace q117 := eq_true q117
                    have ea_ := Option.some.inj (hx113_1.symm.trans hx117_1)
                    injection ea_ with ea_ en_ ec_
                    subst ea_
                    subst ec_
                    clear en_
                    go_wp2
                    repeat (go_quiet (fail); try go_wp2)
                    go_ret
                    exact ⟨by first | rfl | (simp; done) | (simp [*]; done) | (simp; exact (by intro a b; cases a <;> cases b <;> rfl : ∀ a b : Bool, (a == b) = (!(a != b))) _ _), by repeat (first | exact Drawn0.refl _ | apply Drawn0.step)⟩
                  · rw [if_neg c10] at H
                    have c10b0 : (((rd_T31 l0 x7_1).f2) != ((rd_T31 l1 x7_1).f2)) = false := by simpa using c10
                    (try (have c10b1 : decide (((rd_T31 l0 x7_1).f2) = ((rd_T31 l1 x7_1).f2)) = true := by simpa using c10))
                    (try (have c10b2 : (((rd_T31 l0 x7_1).f2) == ((rd_T31 l1 x7_1).f2)) = true := by simpa using c10))
                    clear c10
                    have H' := Aside0.mk H
                    clear H
                    have p112 : 0 ≤ (x7_1 : Int) := of_decide_eq_true (by first | (with_reducible assumption) | assumption)
                    have q112 : x7_1 < (l0.length : Int) := of_decide_eq_true (by first | (with_reducible assumption) | assumption)
                    obtain ⟨ad112, A112_1, c112_1, e112, hx112_0, hx112_1, hx112_2, hl112_1, hi112_1⟩ := at_T31 HR0.out x7_1 p112 q112
                    cases e112
                    have HR112_1 := Aside0.mk hi112_1
                    have HC112_1 := Aside0.mk hl112_1
                    clear hi112_1 hl112_1
                    replace p112 := eq_true p112
                    replace q112 := eq_true q112
                    have p113 : 0 ≤ (x7_1 : Int) := of_decide_eq_true (by first | (with_reducible assumption) | assumption)
                    have q113 : x7_1 < (l1.length : Int) := of_decide_eq_true (by first | (with_reducible assumption) | assumption)
                    obtain ⟨ad113, A113_1, c113_1, e113, hx113_0, hx113_1, hx113_2, hl113_1, hi113_1⟩ := at_T31 HR1.out x7_1 p113 q113
                    cases e113
                    have HR113_1 := Aside0.mk hi113_1
                    have HC113_1 := Aside0.mk hl113_1
                    clear hi113_1 hl113_1
                    replace p113 := eq_true p113
                    replace q113 := eq_true q113
                    have p114 : 0 ≤ (x7_1 : Int) := of_decide_eq_true (by first | (with_reducible assumption) | assumption)
                    have q114 : x7_1 < (l0.length : Int) := of_decide_eq_true (by first | (with_reducible assumption) | assumption)
                    obtain ⟨ad114, A114_1, c114_1, e114, hx114_0, hx114_1, hx114_2, hl114_1, hi114_1⟩ := at_T31 HR0.out x7_1 p114 q114
                    obtain rfl : ad112 = ad114 := (by injection e114)
                    have HR114_1 := Aside0.mk hi114_1
                    have HC114_1 := Aside0.mk hl114_1
                    clear hi114_1 hl114_1
                    replace p114 := eq_true p114
                    replace q114 := eq_true q114
                    have ea_ := Option.some.inj (hx112_1.symm.trans hx114_1)
                    injection ea_ with ea_ en_ ec_
                    subst ea_
                    subst ec_
                    clear en_
                    have hcv13 := Kd.C_string (P := Try.prog) (A := A112_1) (c := c112_1) Try.underlying22 Try.underlying5 Try.underlying9 HR114_1.out
                    have hcvq13 := fun m => Kd.C_string (P := Try.prog) (A := A112_1) (c := c112_1) Try.underlying22 Try.underlying5 Try.underlying9 (Kd.C_drewN HR114_1.out m)
                    have p115 : 0 ≤ (x7_1 : Int) := of_decide_eq_true (by first | (with_reducible assumption) | assumption)
                    have q115 : x7_1 < (l1.length : Int) := of_decide_eq_true (by first | (with_reducible assumption) | assumption)
                    obtain ⟨ad115, A115_1, c115_1, e115, hx115_0, hx115_1, hx115_2, hl115_1, hi115_1⟩ := at_T31 HR1.out x7_1 p115 q115
                    obtain rfl : ad113 = ad115 := (by injection e115)
                    have HR115_1 := Aside0.mk hi115_1
                    have HC115_1 := Aside0.mk hl115_1
                    clear hi115_1 hl115_1
                    replace p115 := eq_true p115
                    replace q115 := eq_true q115
                    have ea_ := Option.some.inj (hx113_1.symm.trans hx115_1)
                    injection ea_ with ea_ en_ ec_
                    subst ea_
                    subst ec_
                    clear en_
                    have hcv14 := Kd.C_string (P := Try.prog) (A := A113_1) (c := c113_1) Try.underlying22 Try.underlying5 Try.underlying9 HR115_1.out
                    have hcvq14 := fun m => Kd.C_string (P := Try.prog) (A := A113_1) (c := c113_1) Try.underlying22 Try.underlying5 Try.underlying9 (Kd.C_drewN HR115_1.out m)
                    have p116 : 0 ≤ (x7_1 : Int) := of_decide_eq_true (by first | (with_reducible assumption) | assumption)
                    have q116 : x7_1 < (l0.length : Int) := of_decide_eq_true (by first | (with_reducible assumption) | assumption)
                    obtain ⟨ad116, A116_1, c116_1, e116, hx116_0, hx116_1, hx116_2, hl116_1, hi116_1⟩ := at_T31 HR0.out x7_1 p116 q116
                    obtain rfl : ad112 = ad116 := (by injection e116)
                    have HR116_1 := Aside0.mk hi116_1
                    have HC116_1 := Aside0.mk hl116_1
                    clear hi116_1 hl116_1
                    replace p116 := eq_true p116
                    replace q116 := eq_true q116
                    have ea_ := Option.some.inj (hx112_1.symm.trans hx116_1)
                    injection ea_ with ea_ en_ ec_
                    subst ea_
                    subst ec_
                    clear en_
                    have p117 : 0 ≤ (x7_1 : Int) := of_decide_eq_true (by first | (with_reducible assumption) | assumption)
                    have q117 : x7_1 < (l1.length : Int) := of_decide_eq_true (by first | (with_reducible assumption) | assumption)
                    obtain ⟨ad117, A117_1, c117_1, e117, hx117_0, hx117_1, hx117_2, hl117_1, hi117_1⟩ := at_T31 HR1.out x7_1 p117 q117
                    obtain rfl : ad113 = ad117 := (by injection e117)
                    have HR117_1 := Aside0.mk hi117_1
                    have HC117_1 := Aside0.mk hl117_1
                    clear hi117_1 hl117_1
                    replace p117 := eq_true p117
                    replace q117 := eq_true q117
                    have ea_ := Option.some.inj (hx113_1.symm.trans hx117_1)
                    injection ea_ with ea_ en_ ec_
                    subst ea_
                    subst ec_
                    clear en_
                    go_wp2
                    repeat (go_quiet (fail); try go_wp2)
                    go_roundg k1
                    case measure => have := HK1.out; omega
                    case rel => exact ⟨(wrap64 (x7_1 + 1)), (by first | rfl | (simp; done) | (simp [*]; done) | (simp; exact (by intro a b; cases a <;> cases b <;> rfl : ∀ a b : Bool, (a == b) = (!(a != b))) _ _)), H', ⟨by have := HK1.out; omega⟩, by repeat (first | exact Drawn0.refl _ | apply Drawn0.step)⟩
                · rw [if_neg c9] at H
                  have c9b0 : ((strOfNums ((rd_T31 l0 x7_1).f1)).toList == (strOfNums ((rd_T31 l1 x7_1).f1)).toList) = false := beq_eq_false_iff_ne.mpr c9
                  have c9b1 : ((strOfNums ((rd_T31 l0 x7_1).f1)).toList != (strOfNums ((rd_T31 l1 x7_1).f1)).toList) = true := bne_iff_ne.mpr c9
                  obtain rfl := Option.some.inj H
                  have p112 : 0 ≤ (x7_1 : Int) := of_decide_eq_true (by first | (with_reducible assumption) | assumption)
                  have q112 : x7_1 < (l0.length : Int) := of_decide_eq_true (by first | (with_reducible assumption) | assumption)
                  obtain ⟨ad112, A112_1, c112_1, e112, hx112_0, hx112_1, hx112_2, hl112_1, hi112_1⟩ := at_T31 HR0.out x7_1 p112 q112
                  cases e112
                  have HR112_1 := Aside0.mk hi112_1
                  have HC112_1 := Aside0.mk hl112_1
                  clear hi112_1 hl112_1
                  replace p112 := eq_true p112
                  replace q112 := eq_true q112
                  have p113 : 0 ≤ (x7_1 : Int) := of_decide_eq_true (by first | (with_reducible assumption) | assumption)
                  have q113 : x7_1 < (l1.length : Int) := of_decide_eq_true (by first | (with_reducible assumption) | assumption)
                  obtain ⟨ad113, A113_1, c113_1, e113, hx113_0, hx113_1, hx113_2, hl113_1, hi113_1⟩ := at_T31 HR1.out x7_1 p113 q113
                  cases e113
                  have HR113_1 := Aside0.mk hi113_1
                  have HC113_1 := Aside0.mk hl113_1
                  clear hi113_1 hl113_1
                  replace p113 := eq_true p113
                  replace q113 := eq_true q113
                  have p114 : 0 ≤ (x7_1 : Int) := of_decide_eq_true (by first | (with_reducible assumption) | assumption)
                  have q114 : x7_1 < (l0.length : Int) := of_decide_eq_true (by first | (with_reducible assumption) | assumption)
                  obtain ⟨ad114, A114_1, c114_1, e114, hx114_0, hx114_1, hx114_2, hl114_1, hi114_1⟩ := at_T31 HR0.out x7_1 p114 q114
                  obtain rfl : ad112 = ad114 := (by injection e114)
                  have HR114_1 := Aside0.mk hi114_1
                  have HC114_1 := Aside0.mk hl114_1
                  clear hi114_1 hl114_1
                  replace p114 := eq_true p114
                  replace q114 := eq_true q114
                  have ea_ := Option.some.inj (hx112_1.symm.trans hx114_1)
                  injection ea_ with ea_ en_ ec_
                  subst ea_
                  subst ec_
                  clear en_
                  have hcv15 := Kd.C_string (P := Try.prog) (A := A112_1) (c := c112_1) Try.underlying22 Try.underlying5 Try.underlying9 HR114_1.out
                  have hcvq15 := fun m => Kd.C_string (P := Try.prog) (A := A112_1) (c := c112_1) Try.underlying22 Try.underlying5 Try.underlying9 (Kd.C_drewN HR114_1.out m)
                  have p115 : 0 ≤ (x7_1 : Int) := of_decide_eq_true (by first | (with_reducible assumption) | assumption)
                  have q115 : x7_1 < (l1.length : Int) := of_decide_eq_true (by first | (with_reducible assumption) | assumption)
                  obtain ⟨ad115, A115_1, c115_1, e115, hx115_0, hx115_1, hx115_2, hl115_1, hi115_1⟩ := at_T31 HR1.out x7_1 p115 q115
                  obtain rfl : ad113 = ad115 := (by injection e115)
                  have HR115_1 := Aside0.mk hi115_1
                  have HC115_1 := Aside0.mk hl115_1
                  clear hi115_1 hl115_1
                  replace p115 := eq_true p115
                  replace q115 := eq_true q115
                  have ea_ := Option.some.inj (hx113_1.symm.trans hx115_1)
                  injection ea_ with ea_ en_ ec_
                  subst ea_
                  subst ec_
                  clear en_
                  have hcv16 := Kd.C_string (P := Try.prog) (A := A113_1) (c := c113_1) Try.underlying22 Try.underlying5 Try.underlying9 HR115_1.out
                  have hcvq16 := fun m => Kd.C_string (P := Try.prog) (A := A113_1) (c := c113_1) Try.underlying22 Try.underlying5 Try.underlying9 (Kd.C_drewN HR115_1.out m)
                  go_wp2
                  repeat (go_quiet (fail); try go_wp2)
                  go_ret
                  exact ⟨by first | rfl | (simp; done) | (simp [*]; done) | (simp; exact (by intro a b; cases a <;> cases b <;> rfl : ∀ a b : Bool, (a == b) = (!(a != b))) _ _), by repeat (first | exact Drawn0.refl _ | apply Drawn0.step)⟩
              · rw [if_neg c8] at H
                have c8b0 : (((rd_T31 l0 x7_1).f0) == (wrap64 (((rd_T31 l1 x7_1).f0) + a2))) = false := beq_eq_false_iff_ne.mpr c8
                have c8b1 : (((rd_T31 l0 x7_1).f0) != (wrap64 (((rd_T31 l1 x7_1).f0) + a2))) = true := bne_iff_ne.mpr c8
                obtain rfl := Option.some.inj H
                have p112 : 0 ≤ (x7_1 : Int) := of_decide_eq_true (by first | (with_reducible assumption) | assumption)
                have q112 : x7_1 < (l0.length : Int) := of_decide_eq_true (by first | (with_reducible assumption) | assumption)
                obtain ⟨ad112, A112_1, c112_1, e112, hx112_0, hx112_1, hx112_2, hl112_1, hi112_1⟩ := at_T31 HR0.out x7_1 p112 q112
                cases e112
                have HR112_1 := Aside0.mk hi112_1
                have HC112_1 := Aside0.mk hl112_1
                clear hi112_1 hl112_1
                replace p112 := eq_true p112
                replace q112 := eq_true q112
                have p113 : 0 ≤ (x7_1 : Int) := of_decide_eq_true (by first | (with_reducible assumption) | assumption)
                have q113 : x7_1 < (l1.length : Int) := of_decide_eq_true (by first | (with_reducible assumption) | assumption)
                obtain ⟨ad113, A113_1, c113_1, e113, hx113_0, hx113_1, hx113_2, hl113_1, hi113_1⟩ := at_T31 HR1.out x7_1 p113 q113
                cases e113
                have HR113_1 := Aside0.mk hi113_1
                have HC113_1 := Aside0.mk hl113_1
                clear hi113_1 hl113_1
                replace p113 := eq_true p113
                replace q113 := eq_true q113
                go_wp2
                repeat (go_quiet (fail); try go_wp2)
                go_ret
                exact ⟨by first | rfl | (simp; done) | (simp [*]; done) | (simp; exact (by intro a b; cases a <;> cases b <;> rfl : ∀ a b : Bool, (a == b) = (!(a != b))) _ _), by repeat (first | exact Drawn0.refl _ | apply Drawn0.step)⟩
            · rw [if_neg c7] at H
              exact absurd H (by simp)
          · rw [if_neg c6] at H
            exact absurd H (by simp)
        · rw [if_neg c5] at H
          have c5b0 : decide (x7_1 < (l0.length : Int)) = false := decide_eq_false c5
          clear c5
          obtain rfl := Option.some.inj H
          go_wp2
          repeat (go_quiet (fail); try go_wp2)
          go_ret
          exact ⟨by first | rfl | (simp; done) | (simp [*]; done) | (simp; exact (by intro a b; cases a <;> cases b <;> rfl : ∀ a b : Bool, (a == b) = (!(a != b))) _ _), by repeat (first | exact Drawn0.refl _ | apply Drawn0.step)⟩
  · rw [if_neg c4] at H
    have c4b0 : ((l0.length : Int) == (l1.length : Int)) = false := beq_eq_false_iff_ne.mpr c4
    have c4b1 : ((l0.length : Int) != (l1.length : Int)) = true := bne_iff_ne.mpr c4
    have c4b2 : (l0.length == l1.length) = false := by first | simpa using c4 | (simp at c4 ⊢; omega)
    obtain rfl := Option.some.inj H
    go_enter Try.func16, Try.ntmps16
    go_wp2
    repeat (go_quiet (fail); try go_wp2)
    go_ret
    exact ⟨by first | rfl | (simp; done) | (simp [*]; done) | (simp; exact (by intro a b; cases a <;> cases b <;> rfl : ∀ a b : Bool, (a == b) = (!(a != b))) _ _), by repeat (first | exact Drawn0.refl _ | apply Drawn0.step)⟩

/-! ### seinelaw02_LinesParts: function 7 -/
mutual
def seinelaw02_LinesParts.j0 : Nat → List Int → List Int → Bool → Option (Bool)
  | 0, _, _, _ => none
  | k + 1, x0, x1, x21 => if x21 = true then (some true) else (if ([] : List Int).length + x0.length < 140737488355328 then ((some (([] : List Int) ++ x0 : List Int)).bind fun y119 => (if y119.length < 140737488355328 then ((some (y119 ++ [10] : List Int)).bind fun y122 => ((lines_Split.f y122).bind fun t125 => (if y122.length + x1.length < 140737488355328 then ((some (y122 ++ x1 : List Int)).bind fun y128 => ((lines_Split.f y128).bind fun t131 => ((lines_Split.f x1).bind fun t134 => (if (t131.length : Int) = (wrap64 ((t125.length : Int) + (t134.length : Int))) then ((lines_Count.f k y128).bind fun t137 => (seinelaw02_LinesParts.j1 k t125 (y122.length : Int) t131 t134 (t137 != (t131.length : Int)))) else (seinelaw02_LinesParts.j1 k t125 (y122.length : Int) t131 t134 true))))) else (none)))) else (none))) else (none))
def seinelaw02_LinesParts.j1 : Nat → List (S31) → Int → List (S31) → List (S31) → Bool → Option (Bool)
  | 0, _, _, _, _, _ => none
  | k + 1, x7, x8, x9, x10, x53 => if x53 = true then (none) else (if 0 ≤ (x7.length : Int) then (if (x7.length : Int) ≤ (x9.length : Int) then ((seinelaw02_same.f k (x9.take ((x7.length : Int) : Int).toNat) x7 0).bind fun t142 => (if t142 = true then ((seinelaw02_same.f k (x9.drop ((x7.length : Int) : Int).toNat) x10 x8).bind fun t147 => (some t147)) else (none))) else (none)) else (none))
end
def seinelaw02_LinesParts.f (k : Nat) (l0 : List Int) (l1 : List Int) : Option (Bool) := (seinelaw02_awake.f).bind fun t118 => (if t118 = true then (if (l0.length : Int) > 500 then (seinelaw02_LinesParts.j0 k l0 l1 true) else (seinelaw02_LinesParts.j0 k l0 l1 (decide ((l1.length : Int) > 500)))) else (none))
theorem seinelaw02_LinesParts.mono_l : ∀ k, (∀ y0 y1 y2, LeO (seinelaw02_LinesParts.j0 k y0 y1 y2) (seinelaw02_LinesParts.j0 (k + 1) y0 y1 y2)) ∧ (∀ y0 y1 y2 y3 y4, LeO (seinelaw02_LinesParts.j1 k y0 y1 y2 y3 y4) (seinelaw02_LinesParts.j1 (k + 1) y0 y1 y2 y3 y4))
  | 0 => ⟨fun _ _ _ r h => by simp [seinelaw02_LinesParts.j0] at h, fun _ _ _ _ _ r h => by simp [seinelaw02_LinesParts.j1] at h⟩
  | k + 1 => by
    obtain ⟨ih0, ih1⟩ := seinelaw02_LinesParts.mono_l k
    refine ⟨?_, ?_⟩
    · intro y0 y1 y2
      unfold seinelaw02_LinesParts.j0
      repeat' first
      | (with_reducible exact ih0 _ _ _)
      | (with_reducible exact ih1 _ _ _ _ _)
      | (with_reducible exact lines_Count.mono _ _)
      | (with_reducible exact seinelaw02_same.mono _ _ _ _)
      | (with_reducible exact LeO.refl _)
      | (with_reducible exact LeO.none _)
      | (with_reducible refine LeO.ite ?_ ?_)
      | (with_reducible refine LeO.bind ?_ (fun _ => ?_))
      | exact ih0 _ _ _
      | exact ih1 _ _ _ _ _
      | exact lines_Count.mono _ _
      | exact seinelaw02_same.mono _ _ _ _
      | exact LeO.none _
      | refine LeO.ite ?_ ?_
      | refine LeO.bind ?_ (fun _ => ?_)
    · intro y0 y1 y2 y3 y4
      unfold seinelaw02_LinesParts.j1
      repeat' first
      | (with_reducible exact ih0 _ _ _)
      | (with_reducible exact ih1 _ _ _ _ _)
      | (with_reducible exact lines_Count.mono _ _)
      | (with_reducible exact seinelaw02_same.mono _ _ _ _)
      | (with_reducible exact LeO.refl _)
      | (with_reducible exact LeO.none _)
      | (with_reducible refine LeO.ite ?_ ?_)
      | (with_reducible refine LeO.bind ?_ (fun _ => ?_))
      | exact ih0 _ _ _
      | exact ih1 _ _ _ _ _
      | exact lines_Count.mono _ _
      | exact seinelaw02_same.mono _ _ _ _
      | exact LeO.none _
      | refine LeO.ite ?_ ?_
      | refine LeO.bind ?_ (fun _ => ?_)
theorem seinelaw02_LinesParts.mono : ∀ a0 a1 k, LeO (seinelaw02_LinesParts.f k a0 a1) (seinelaw02_LinesParts.f (k + 1) a0 a1) := by
  intro a0 a1 k
  obtain ⟨ih0, ih1⟩ := seinelaw02_LinesParts.mono_l k
  unfold seinelaw02_LinesParts.f
  repeat' first
      | (with_reducible exact ih0 _ _ _)
      | (with_reducible exact ih1 _ _ _ _ _)
      | (with_reducible exact lines_Count.mono _ _)
      | (with_reducible exact seinelaw02_same.mono _ _ _ _)
      | (with_reducible exact LeO.refl _)
      | (with_reducible exact LeO.none _)
      | (with_reducible refine LeO.ite ?_ ?_)
      | (with_reducible refine LeO.bind ?_ (fun _ => ?_))
      | exact ih0 _ _ _
      | exact ih1 _ _ _ _ _
      | exact lines_Count.mono _ _
      | exact seinelaw02_same.mono _ _ _ _
      | exact LeO.none _
      | refine LeO.ite ?_ ?_
      | refine LeO.bind ?_ (fun _ => ?_)
set_option maxHeartbeats 8000000 in
set_option maxRecDepth 100000 in
theorem seinelaw02_LinesParts.calls (k : Nat) (A0 : Option Addr) (c0 : Nat) (l0 : List Int) (A1 : Option Addr) (c1 : Nat) (l1 : List Int) (r : Bool) (w : World) (hr0 : Kd.C (Kd.int .u8) w A0 l0.length l0) (hc0 : l0.length ≤ c0) (hr1 : Kd.C (Kd.int .u8) w A1 l1.length l1) (hc1 : l1.length ≤ c1) (h : seinelaw02_LinesParts.f k l0 l1 = some r) :
    Calls Try.prog 7 #[.slice A0 l0.length c0, .slice A1 l1.length c1] w fun e w' => e = .returned (.bool r) ∧ Below w.heap.size w w' := by
  have HR0 := Aside0.mk hr0
  have HC0 := Aside0.mk hc0
  clear hr0 hc0
  have HR1 := Aside0.mk hr1
  have HC1 := Aside0.mk hc1
  clear hr1 hc1
  have HB := Aside0.mk (Below.refl w.heap.size w)
  have H : ((seinelaw02_awake.f).bind fun t118 => (if t118 = true then (if (l0.length : Int) > 500 then (seinelaw02_LinesParts.j0 k l0 l1 true) else (seinelaw02_LinesParts.j0 k l0 l1 (decide ((l1.length : Int) > 500)))) else (none))) = some r := h
  clear h
  replace H := Option.bind_eq_some_iff.mp H
  obtain ⟨t118, A30, H⟩ := H
  replace H : (if t118 = true then (if (l0.length : Int) > 500 then (seinelaw02_LinesParts.j0 k l0 l1 true) else (seinelaw02_LinesParts.j0 k l0 l1 (decide ((l1.length : Int) > 500)))) else (none)) = some r := H
  have A3 := Aside0.mk A30
  clear A30
  by_cases c4 : t118 = true
  · subst c4
    have H1 : (if (l0.length : Int) > 500 then (seinelaw02_LinesParts.j0 k l0 l1 true) else (seinelaw02_LinesParts.j0 k l0 l1 (decide ((l1.length : Int) > 500)))) = some r := by rw [if_pos rfl] at H; exact H
    clear H
    have H := H1
    clear H1
    have HC5 := Aside0.mk H
    clear H
    go_enter Try.func7, Try.ntmps7
    go_upto_region 4 with (first | ((with_reducible refine gate_callee (f := 9) rfl ?_); refine goesL_ (some 11) rfl rfl Try.func9 (by kernel_rfl) rfl #[] rfl (by (try simp only [List.map_toArray, List.map_cons, List.map_nil]); first | done | rfl | (simp only [List.length_drop, List.length_take]; rfl)) ?_; (with_reducible refine (seinelaw02_awake.calls  true _ A3.out).mono ?_); rintro e w6 ⟨rfl, hb⟩; refine ⟨_, rfl, ?_⟩; have n0_ := Aside0.mk (below_step (by repeat (first | (with_reducible first | exact HB.out | apply below_alloc | apply pw_below_drewN | apply below_drew1) | exact HB.out)) hb); clear HB; have HB := n0_; clear n0_; (try clear hb); (try clear hb2); (try clear hk); (try clear hi)))
    (try simp only [Act.put, List.setIfInBounds_toArray, List.set_cons_zero, List.set_cons_succ])
    go_cut [21] (fun v21 wc => ∃ (kq : Nat) (x21_4 : Bool), v21 = .bool x21_4 ∧ Aside0 (seinelaw02_LinesParts.j0 kq l0 l1 x21_4 = some r) ∧ Aside0 (kq ≤ k) ∧ Aside0 (Below w.heap.size w wc))
    case first =>
      have H := HC5.out
      clear HC5
      by_cases c7 : (l0.length : Int) > 500
      · rw [if_pos c7] at H
        have c7b0 : decide (500 < (l0.length : Int)) = true := decide_eq_true c7
        have c7b1 : decide (500 < l0.length) = true := decide_eq_true (by omega)
        clear c7
        (first | rw [c7b0] | (simp only [i64_w, i32_w]; rw [c7b0]) | skip)
        have H' := Aside0.mk H
        clear H
        go_wp2
        go_meet
        case rel => exact ⟨_, (true), (by first | rfl | (simp; done) | (simp [*]; done) | (simp; exact (by intro a b; cases a <;> cases b <;> rfl : ∀ a b : Bool, (a == b) = (!(a != b))) _ _)), H', ⟨by first | omega | exact Nat.le_refl _⟩, ⟨by repeat (first | (with_reducible first | exact HB.out | apply below_alloc | apply pw_below_drewN | apply below_drew1) | exact HB.out)⟩⟩
      · rw [if_neg c7] at H
        have c7b0 : decide (500 < (l0.length : Int)) = false := decide_eq_false c7
        have c7b1 : decide (500 < l0.length) = false := decide_eq_false (by omega)
        clear c7
        (first | rw [c7b0] | (simp only [i64_w, i32_w]; rw [c7b0]) | skip)
        have H' := Aside0.mk H
        clear H
        go_wp2
        go_meet
        case rel => exact ⟨_, (decide ((l1.length : Int) > 500)), (by first | rfl | (simp; done) | (simp [*]; done) | (simp; exact (by intro a b; cases a <;> cases b <;> rfl : ∀ a b : Bool, (a == b) = (!(a != b))) _ _)), H', ⟨by first | omega | exact Nat.le_refl _⟩, ⟨by repeat (first | (with_reducible first | exact HB.out | apply below_alloc | apply pw_below_drewN | apply below_drew1) | exact HB.out)⟩⟩
    case rest =>
      clear HC5
      try clear c1
      try clear p2
      try clear c4
      try clear c7
      try clear c7b0
      try clear c7b1
      obtain ⟨kq, x21_4, rfl, HA, HJ4, HB⟩ := hcut
      cases kq with
      | zero => exact absurd HA.out (by simp [seinelaw02_LinesParts.j0])
      | succ kj4 =>
        have H := HA.out
        clear HA
        simp only [seinelaw02_LinesParts.j0] at H
        by_cases c8 : x21_4 = true
        · subst c8
          have H1 : (some true) = some r := by rw [if_pos rfl] at H; exact H
          clear H
          have H := H1
          clear H1
          obtain rfl := Option.some.inj H
          go_wp2
          go_ret
          exact ⟨by first | rfl | (simp [errW_none, errW_some] <;> rfl) | (simp [*, errW_none, errW_some] <;> rfl), by repeat (first | (with_reducible first | exact HB.out | apply below_alloc | apply pw_below_drewN | apply below_drew1) | exact HB.out)⟩
        · replace c8 := Bool.eq_false_iff.mpr c8
          subst c8
          have H1 : (if ([] : List Int).length + l0.length < 140737488355328 then ((some (([] : List Int) ++ l0 : List Int)).bind fun y119 => (if y119.length < 140737488355328 then ((some (y119 ++ [10] : List Int)).bind fun y122 => ((lines_Split.f y122).bind fun t125 => (if y122.length + l1.length < 140737488355328 then ((some (y122 ++ l1 : List Int)).bind fun y128 => ((lines_Split.f y128).bind fun t131 => ((lines_Split.f l1).bind fun t134 => (if (t131.length : Int) = (wrap64 ((t125.length : Int) + (t134.length : Int))) then ((lines_Count.f kj4 y128).bind fun t137 => (seinelaw02_LinesParts.j1 kj4 t125 (y122.length : Int) t131 t134 (t137 != (t131.length : Int)))) else (seinelaw02_LinesParts.j1 kj4 t125 (y122.length : Int) t131 t134 true))))) else (none)))) else (none))) else (none)) = some r := by rw [if_neg (show ¬ (false = true) by decide)] at H; exact H
          clear H
          have H := H1
          clear H1
          by_cases c9 : ([] : List Int).length + l0.length < 140737488355328
          · rw [if_pos c9] at H
            have LMc9 := Aside0.mk c9
            clear c9
            obtain ⟨y119, hy119⟩ : ∃ y_ : List Int, y_ = (([] : List Int) ++ l0) := ⟨_, rfl⟩
            replace H : (if y119.length < 140737488355328 then ((some (y119 ++ [10] : List Int)).bind fun y122 => ((lines_Split.f y122).bind fun t125 => (if y122.length + l1.length < 140737488355328 then ((some (y122 ++ l1 : List Int)).bind fun y128 => ((lines_Split.f y128).bind fun t131 => ((lines_Split.f l1).bind fun t134 => (if (t131.length : Int) = (wrap64 ((t125.length : Int) + (t134.length : Int))) then ((lines_Count.f kj4 y128).bind fun t137 => (seinelaw02_LinesParts.j1 kj4 t125 (y122.length : Int) t131 t134 (t137 != (t131.length : Int)))) else (seinelaw02_LinesParts.j1 kj4 t125 (y122.length : Int) t131 t134 true))))) else (none)))) else (none)) = some r := by first | (rw [hy119]; with_reducible exact H) | (have H2_ := (Option.bind_some _ _).symm.trans H; rw [hy119]; with_reducible exact H2_) | (have H2_ := (Option.bind_some _ _).symm.trans H; with_reducible exact H2_) | with_reducible exact H | (rw [hy119]; exact H) | exact H
            have Ny119 := Aside0.mk hy119
            clear hy119
            by_cases c10 : y119.length < 140737488355328
            · rw [if_pos c10] at H
              have LMc10 := Aside0.mk c10
              clear c10
              obtain ⟨y122, hy122⟩ : ∃ y_ : List Int, y_ = (y119 ++ [10]) := ⟨_, rfl⟩
              replace H : ((lines_Split.f y122).bind fun t125 => (if y122.length + l1.length < 140737488355328 then ((some (y122 ++ l1 : List Int)).bind fun y128 => ((lines_Split.f y128).bind fun t131 => ((lines_Split.f l1).bind fun t134 => (if (t131.length : Int) = (wrap64 ((t125.length : Int) + (t134.length : Int))) then ((lines_Count.f kj4 y128).bind fun t137 => (seinelaw02_LinesParts.j1 kj4 t125 (y122.length : Int) t131 t134 (t137 != (t131.length : Int)))) else (seinelaw02_LinesParts.j1 kj4 t125 (y122.length : Int) t131 t134 true))))) else (none))) = some r := by first | (rw [hy122]; with_reducible exact H) | (have H2_ := (Option.bind_some _ _).symm.trans H; rw [hy122]; with_reducible exact H2_) | (have H2_ := (Option.bind_some _ _).symm.trans H; with_reducible exact H2_) | with_reducible exact H | (rw [hy122]; exact H) | exact H
              have Ny122 := Aside0.mk hy122
              clear hy122
              replace H := Option.bind_eq_some_iff.mp H
              obtain ⟨t125, A110, H⟩ := H
              replace H : (if y122.length + l1.length < 140737488355328 then ((some (y122 ++ l1 : List Int)).bind fun y128 => ((lines_Split.f y128).bind fun t131 => ((lines_Split.f l1).bind fun t134 => (if (t131.length : Int) = (wrap64 ((t125.length : Int) + (t134.length : Int))) then ((lines_Count.f kj4 y128).bind fun t137 => (seinelaw02_LinesParts.j1 kj4 t125 (y122.length : Int) t131 t134 (t137 != (t131.length : Int)))) else (seinelaw02_LinesParts.j1 kj4 t125 (y122.length : Int) t131 t134 true))))) else (none)) = some r := H
              have A11 := Aside0.mk A110
              clear A110
              by_cases c12 : y122.length + l1.length < 140737488355328
              · rw [if_pos c12] at H
                have LMc12 := Aside0.mk c12
                clear c12
                obtain ⟨y128, hy128⟩ : ∃ y_ : List Int, y_ = (y122 ++ l1) := ⟨_, rfl⟩
                replace H : ((lines_Split.f y128).bind fun t131 => ((lines_Split.f l1).bind fun t134 => (if (t131.length : Int) = (wrap64 ((t125.length : Int) + (t134.length : Int))) then ((lines_Count.f kj4 y128).bind fun t137 => (seinelaw02_LinesParts.j1 kj4 t125 (y122.length : Int) t131 t134 (t137 != (t131.length : Int)))) else (seinelaw02_LinesParts.j1 kj4 t125 (y122.length : Int) t131 t134 true)))) = some r := by first | (rw [hy128]; with_reducible exact H) | (have H2_ := (Option.bind_some _ _).symm.trans H; rw [hy128]; with_reducible exact H2_) | (have H2_ := (Option.bind_some _ _).symm.trans H; with_reducible exact H2_) | with_reducible exact H | (rw [hy128]; exact H) | exact H
                have Ny128 := Aside0.mk hy128
                clear hy128
                replace H := Option.bind_eq_some_iff.mp H
                obtain ⟨t131, A130, H⟩ := H
                replace H : ((lines_Split.f l1).bind fun t134 => (if (t131.length : Int) = (wrap64 ((t125.length : Int) + (t134.length : Int))) then ((lines_Count.f kj4 y128).bind fun t137 => (seinelaw02_LinesParts.j1 kj4 t125 (y122.length : Int) t131 t134 (t137 != (t131.length : Int)))) else (seinelaw02_LinesParts.j1 kj4 t125 (y122.length : Int) t131 t134 true))) = some r := H
                have A13 := Aside0.mk A130
                clear A130
                replace H := Option.bind_eq_some_iff.mp H
                obtain ⟨t134, A140, H⟩ := H
                replace H : (if (t131.length : Int) = (wrap64 ((t125.length : Int) + (t134.length : Int))) then ((lines_Count.f kj4 y128).bind fun t137 => (seinelaw02_LinesParts.j1 kj4 t125 (y122.length : Int) t131 t134 (t137 != (t131.length : Int)))) else (seinelaw02_LinesParts.j1 kj4 t125 (y122.length : Int) t131 t134 true)) = some r := H
                have A14 := Aside0.mk A140
                clear A140
                have HC15 := Aside0.mk H
                clear H
                go_upto_region 14 with (first | ((with_reducible refine gate_builtin (b := .append) (xs := #[.tmp 22, .tmp 23]) rfl ?_); (try (refine gate_guard (by rfl) ?_; dsimp only)); at_builtin; refine Kd.R_append_rows (Kd.int .u8) (w0 := w) w.heap.size rfl (.tmp 22) (.tmp 23) 22 5 (.int .u8 0) 1 rfl Try.underlying22 info5 rfl (by decide) (by omega) (.slice none 0 0) ([] : List Int) l0 _ _ _ (fun _ => True) (fun _ => False) rfl rfl ?aO ?aR (fun _ _ h => h) (fun _ h => h.elim) ?aF ?aB ?aS ?aL ?_; (case aR => repeat (first | exact (Kd.C_below HR0.out HB.out) | (with_reducible refine Kd.C_alloc ?_ _) | (with_reducible refine Kd.C_drewN ?_ _) | (with_reducible refine Kd.C_drew ?_))); (case aB => exact (by repeat (first | (with_reducible first | exact HB.out | apply below_alloc | apply pw_below_drewN | apply below_drew1) | exact HB.out))); (case aF => exact (fun _ _ => trivial)); (case aO => exact ((Kd.R_nil _ _ _ _ (fun _ => True)))); (case aS => exact (below_size (by repeat (first | (with_reducible first | exact HB.out | apply below_alloc | apply pw_below_drewN | apply below_drew1) | exact HB.out)))); (case aL => have := LMc9.out; omega); intro v120 w16 ho hb hg hat; rw [← Ny119.out] at ho; have n0_ := Aside0.mk (hb); have n1_ := Aside0.mk (ho); clear HB; have HB := n0_; have HO121 := n1_; clear n0_ n1_; clear ho hb hg hat) | ((with_reducible refine gate_builtin (b := .append) (xs := #[.tmp 25, .tmp 26]) rfl ?_); (try (refine gate_guard (by rfl) ?_; dsimp only)); at_builtin; refine Kd.R_append (Kd.int .u8) (w0 := w) w.heap.size rfl (.tmp 25) (.tmp 26) 22 5 (.int .u8 0) 1 rfl Try.underlying22 info5 rfl (by decide) (by omega) v120 y119 10 [.int .u8 10] (fun _ => True) (fun _ => False) rfl rfl ?aP (fun _ hk => hk.elim) ?aF ?aO ?aB ?aS ?aL ?_; (case aP => exact rfl); (case aB => exact (by repeat (first | (with_reducible first | exact HB.out | apply below_alloc | apply pw_below_drewN | apply below_drew1) | exact HB.out))); (case aF => exact (fun _ _ => trivial)); (case aO => exact (by (with_reducible repeat (first | apply Kd.R_alloc | apply Kd.R_drewN | apply Kd.R_drew)); exact HO121.out)); (case aS => exact (below_size (by repeat (first | (with_reducible first | exact HB.out | apply below_alloc | apply pw_below_drewN | apply below_drew1) | exact HB.out)))); (case aL => have := LMc10.out; omega); intro v123 w17 ho hb hg hat; rw [← Ny122.out] at ho; have n0_ := Aside0.mk (hb); have n1_ := Aside0.mk (ho); clear HB; clear HO121; have HB := n0_; have HO124 := n1_; clear n0_ n1_; clear ho hb hg hat; obtain ⟨Ao18, co18, eo18⟩ := Kd.R_slice HO124.out; subst eo18) | ((with_reducible refine gate_callee (f := 10) rfl ?_); refine goesL_ (some 29) rfl rfl Try.func10 (by kernel_rfl) rfl #[.slice Ao18 y122.length co18] rfl (by (try simp only [List.map_toArray, List.map_cons, List.map_nil]); first | done | rfl | (simp only [List.length_drop, List.length_take]; rfl)) ?_; (with_reducible refine (lines_Split.calls _ _ y122 t125 _ ?side1 ?side2 A11.out).mono ?_); (case side1 => repeat (first | exact (Kd.R_reads' HO124.out).2.2 | (with_reducible refine Kd.C_alloc ?_ _) | (with_reducible refine Kd.C_drewN ?_ _) | (with_reducible refine Kd.C_drew ?_))); (case side2 => exact (Kd.R_reads' HO124.out).2.1); rintro e w19 ⟨v126, rfl, ho0, hb⟩; refine ⟨_, rfl, ?_⟩; have n0_ := Aside0.mk (Kd.R_below (by (with_reducible repeat (first | apply Kd.R_alloc | apply Kd.R_drewN | apply Kd.R_drew)); exact HO124.out) hb); have n1_ := Aside0.mk (Kd.S_lower (Kd.S_new' ho0 (Kd.R_lt (by (with_reducible repeat (first | apply Kd.R_alloc | apply Kd.R_drewN | apply Kd.R_drew)); exact HO124.out))) (below_size (by repeat (first | (with_reducible first | exact HB.out | apply below_alloc | apply pw_below_drewN | apply below_drew1) | exact HB.out)))); have n2_ := Aside0.mk (below_step (by repeat (first | (with_reducible first | exact HB.out | apply below_alloc | apply pw_below_drewN | apply below_drew1) | exact HB.out)) hb); clear HO124; clear HB; have HO124 := n0_; have HO127 := n1_; have HB := n2_; clear n0_ n1_ n2_; (try clear hb); (try clear hb2); (try clear hk); (try clear hi); (try clear ho0)) | ((with_reducible refine gate_builtin (b := .append) (xs := #[.tmp 32, .tmp 33]) rfl ?_); (try (refine gate_guard (by rfl) ?_; dsimp only)); at_builtin; refine Kd.R_append_rows (Kd.int .u8) (w0 := w) w.heap.size rfl (.tmp 32) (.tmp 33) 22 5 (.int .u8 0) 1 rfl Try.underlying22 info5 rfl (by decide) (by omega) (.slice Ao18 y122.length co18) y122 l1 _ _ _ (fun _ => True) (fun _ => False) rfl rfl ?aO ?aR (fun _ _ h => h) (fun _ h => h.elim) ?aF ?aB ?aS ?aL ?_; (case aR => repeat (first | exact (Kd.C_below HR1.out HB.out) | (with_reducible refine Kd.C_alloc ?_ _) | (with_reducible refine Kd.C_drewN ?_ _) | (with_reducible refine Kd.C_drew ?_))); (case aB => exact (by repeat (first | (with_reducible first | exact HB.out | apply below_alloc | apply pw_below_drewN | apply below_drew1) | exact HB.out))); (case aF => exact (fun _ _ => trivial)); (case aO => exact (by (with_reducible repeat (first | apply Kd.R_alloc | apply Kd.R_drewN | apply Kd.R_drew)); exact HO124.out)); (case aS => exact (below_size (by repeat (first | (with_reducible first | exact HB.out | apply below_alloc | apply pw_below_drewN | apply below_drew1) | exact HB.out)))); (case aL => have := LMc12.out; omega); intro v129 w20 ho hb hg hat; rw [← Ny128.out] at ho; have n0_ := Aside0.mk (Kd.S_after (ok := (fun _ => True)) (by (with_reducible repeat (first | apply Kd.S_alloc | apply Kd.S_drewN | apply Kd.S_drew)); exact HO127.out) hg hat); have n1_ := Aside0.mk (hb); have n2_ := Aside0.mk (ho); clear HO127; clear HB; clear HO124; have HO127 := n0_; have HB := n1_; have HO130 := n2_; clear n0_ n1_ n2_; clear ho hb hg hat; obtain ⟨Ao21, co21, eo21⟩ := Kd.R_slice HO130.out; subst eo21) | ((with_reducible refine gate_callee (f := 10) rfl ?_); refine goesL_ (some 36) rfl rfl Try.func10 (by kernel_rfl) rfl #[.slice Ao21 y128.length co21] rfl (by (try simp only [List.map_toArray, List.map_cons, List.map_nil]); first | done | rfl | (simp only [List.length_drop, List.length_take]; rfl)) ?_; (with_reducible refine (lines_Split.calls _ _ y128 t131 _ ?side1 ?side2 A13.out).mono ?_); (case side1 => repeat (first | exact (Kd.R_reads' HO130.out).2.2 | (with_reducible refine Kd.C_alloc ?_ _) | (with_reducible refine Kd.C_drewN ?_ _) | (with_reducible refine Kd.C_drew ?_))); (case side2 => exact (Kd.R_reads' HO130.out).2.1); rintro e w22 ⟨v132, rfl, ho0, hb⟩; refine ⟨_, rfl, ?_⟩; have n0_ := Aside0.mk (Kd.S_elder' (by (with_reducible repeat (first | apply Kd.S_alloc | apply Kd.S_drewN | apply Kd.S_drew)); exact HO127.out) (Kd.S_base ho0) hb); have n1_ := Aside0.mk (Kd.R_below (by (with_reducible repeat (first | apply Kd.R_alloc | apply Kd.R_drewN | apply Kd.R_drew)); exact HO130.out) hb); have n2_ := Aside0.mk (Kd.S_lower (Kd.S_new' (Kd.S_new' ho0 (Kd.S_lt (by (with_reducible repeat (first | apply Kd.S_alloc | apply Kd.S_drewN | apply Kd.S_drew)); exact HO127.out))) (Kd.R_lt (by (with_reducible repeat (first | apply Kd.R_alloc | apply Kd.R_drewN | apply Kd.R_drew)); exact HO130.out))) (below_size (by repeat (first | (with_reducible first | exact HB.out | apply below_alloc | apply pw_below_drewN | apply below_drew1) | exact HB.out)))); have n3_ := Aside0.mk (below_step (by repeat (first | (with_reducible first | exact HB.out | apply below_alloc | apply pw_below_drewN | apply below_drew1) | exact HB.out)) hb); clear HO127; clear HO130; clear HB; have HO127 := n0_; have HO130 := n1_; have HO133 := n2_; have HB := n3_; clear n0_ n1_ n2_ n3_; (try clear hb); (try clear hb2); (try clear hk); (try clear hi); (try clear ho0)) | ((with_reducible refine gate_callee (f := 10) rfl ?_); refine goesL_ (some 38) rfl rfl Try.func10 (by kernel_rfl) rfl #[.slice A1 l1.length c1] rfl (by (try simp only [List.map_toArray, List.map_cons, List.map_nil]); first | done | rfl | (simp only [List.length_drop, List.length_take]; rfl)) ?_; (with_reducible refine (lines_Split.calls _ _ l1 t134 _ ?side1 ?side2 A14.out).mono ?_); (case side1 => repeat (first | exact (Kd.C_below HR1.out HB.out) | (with_reducible refine Kd.C_alloc ?_ _) | (with_reducible refine Kd.C_drewN ?_ _) | (with_reducible refine Kd.C_drew ?_))); (case side2 => exact HC1.out); rintro e w23 ⟨v135, rfl, ho0, hb⟩; refine ⟨_, rfl, ?_⟩; have n0_ := Aside0.mk (Kd.S_elder' (by (with_reducible repeat (first | apply Kd.S_alloc | apply Kd.S_drewN | apply Kd.S_drew)); exact HO127.out) (Kd.S_base ho0) hb); have n1_ := Aside0.mk (Kd.R_below (by (with_reducible repeat (first | apply Kd.R_alloc | apply Kd.R_drewN | apply Kd.R_drew)); exact HO130.out) hb); have n2_ := Aside0.mk (Kd.S_elder' (by (with_reducible repeat (first | apply Kd.S_alloc | apply Kd.S_drewN | apply Kd.S_drew)); exact HO133.out) (Kd.S_base ho0) hb); have n3_ := Aside0.mk (Kd.S_lower (Kd.S_new' (Kd.S_new' (Kd.S_new' ho0 (Kd.S_lt (by (with_reducible repeat (first | apply Kd.S_alloc | apply Kd.S_drewN | apply Kd.S_drew)); exact HO127.out))) (Kd.R_lt (by (with_reducible repeat (first | apply Kd.R_alloc | apply Kd.R_drewN | apply Kd.R_drew)); exact HO130.out))) (Kd.S_lt (by (with_reducible repeat (first | apply Kd.S_alloc | apply Kd.S_drewN | apply Kd.S_drew)); exact HO133.out))) (below_size (by repeat (first | (with_reducible first | exact HB.out | apply below_alloc | apply pw_below_drewN | apply below_drew1) | exact HB.out)))); have n4_ := Aside0.mk (below_step (by repeat (first | (with_reducible first | exact HB.out | apply below_alloc | apply pw_below_drewN | apply below_drew1) | exact HB.out)) hb); clear HO127; clear HO130; clear HO133; clear HB; have HO127 := n0_; have HO130 := n1_; have HO133 := n2_; have HO136 := n3_; have HB := n4_; clear n0_ n1_ n2_ n3_ n4_; (try clear hb); (try clear hb2); (try clear hk); (try clear hi); (try clear ho0)))
                (try simp only [Act.put, List.setIfInBounds_toArray, List.set_cons_zero, List.set_cons_succ])
                go_cut [53] (fun v53 wc => ∃ (kq : Nat) (x53_14 : Bool), v53 = .bool x53_14 ∧ Aside0 (seinelaw02_LinesParts.j1 kq t125 (y122.length : Int) t131 t134 x53_14 = some r) ∧ Aside0 (kq ≤ kj4) ∧ Aside0 (Kd.S k31 31 wc w.heap.size (fun k_ => some k_ ≠ (v132 : Value).ownBlock ∧ some k_ ≠ (v135 : Value).ownBlock) v126 t125) ∧ Aside0 (Kd.S k31 31 wc w.heap.size (fun k_ => some k_ ≠ (v126 : Value).ownBlock ∧ some k_ ≠ (v135 : Value).ownBlock) v132 t131) ∧ Aside0 (Kd.S k31 31 wc w.heap.size (fun k_ => some k_ ≠ (v126 : Value).ownBlock ∧ some k_ ≠ (v132 : Value).ownBlock) v135 t134) ∧ Aside0 (Below w.heap.size w wc))
                case first =>
                  have H := HC15.out
                  clear HC15
                  by_cases c24 : (t131.length : Int) = (wrap64 ((t125.length : Int) + (t134.length : Int)))
                  · rw [if_pos c24] at H
                    have c24b0 : ((t131.length : Int) == (wrap64 ((t125.length : Int) + (t134.length : Int)))) = true := beq_iff_eq.mpr c24
                    have c24b1 : ((t131.length : Int) != (wrap64 ((t125.length : Int) + (t134.length : Int)))) = false := bne_eq_false_iff_eq.mpr c24
                    clear c24
                    (first | rw [c24b0] | (simp only [i64_w, i32_w]; rw [c24b0]) | skip)
                    replace H := Option.bind_eq_some_iff.mp H
                    obtain ⟨t137, A250, H⟩ := H
                    replace H : (seinelaw02_LinesParts.j1 kj4 t125 (y122.length : Int) t131 t134 (t137 != (t131.length : Int))) = some r := H
                    have A25 := Aside0.mk A250
                    clear A250
                    have H' := Aside0.mk H
                    clear H
                    obtain ⟨Ao26, co26, eo26⟩ := Kd.S_slice HO133.out
                    subst eo26
                    obtain ⟨Ao27, co27, eo27⟩ := Kd.S_slice HO127.out
                    subst eo27
                    obtain ⟨Ao28, co28, eo28⟩ := Kd.S_slice HO136.out
                    subst eo28
                    go_wp2_with (first | (go_at_call 12; (with_reducible refine (lines_Count.calls kj4 _ _ y128 t137 _ ?side1 ?side2 A25.out).mono ?_); (case side1 => repeat (first | exact (Kd.R_reads' HO130.out).2.2 | (with_reducible refine Kd.C_alloc ?_ _) | (with_reducible refine Kd.C_drewN ?_ _) | (with_reducible refine Kd.C_drew ?_))); (case side2 => exact (Kd.R_reads' HO130.out).2.1); rintro e w' ⟨rfl, ⟨nd, rfl⟩⟩))
                    go_meet
                    case rel => exact ⟨_, ((t137 != (t131.length : Int))), (by first | rfl | (simp; done) | (simp [*]; done) | (simp; exact (by intro a b; cases a <;> cases b <;> rfl : ∀ a b : Bool, (a == b) = (!(a != b))) _ _)), H', ⟨by have := HJ4.out; first | omega | exact Nat.le_refl _⟩, ⟨by (with_reducible repeat (first | apply Kd.S_alloc | apply Kd.S_drewN | apply Kd.S_drew)); exact Kd.S_mono HO127.out (fun _ hk => ⟨hk.1.2, hk.2⟩)⟩, ⟨by (with_reducible repeat (first | apply Kd.S_alloc | apply Kd.S_drewN | apply Kd.S_drew)); exact Kd.S_mono HO133.out (fun _ hk => ⟨hk.1.1.2, hk.2⟩)⟩, ⟨by (with_reducible repeat (first | apply Kd.S_alloc | apply Kd.S_drewN | apply Kd.S_drew)); exact Kd.S_mono HO136.out (fun _ hk => ⟨hk.1.1.2, hk.2⟩)⟩, ⟨by repeat (first | (with_reducible first | exact HB.out | apply below_alloc | apply pw_below_drewN | apply below_drew1) | exact HB.out)⟩⟩
                  · rw [if_neg c24] at H
                    have c24b0 : ((t131.length : Int) == (wrap64 ((t125.length : Int) + (t134.length : Int)))) = false := beq_eq_false_iff_ne.mpr c24
                    have c24b1 : ((t131.length : Int) != (wrap64 ((t125.length : Int) + (t134.length : Int)))) = true := bne_iff_ne.mpr c24
                    (first | rw [c24b0] | (simp only [i64_w, i32_w]; rw [c24b0]) | skip)
                    have H' := Aside0.mk H
                    clear H
                    obtain ⟨Ao29, co29, eo29⟩ := Kd.S_slice HO133.out
                    subst eo29
                    obtain ⟨Ao30, co30, eo30⟩ := Kd.S_slice HO127.out
                    subst eo30
                    obtain ⟨Ao31, co31, eo31⟩ := Kd.S_slice HO136.out
                    subst eo31
                    go_wp2
                    go_meet
                    case rel => exact ⟨_, (true), (by first | rfl | (simp; done) | (simp [*]; done) | (simp; exact (by intro a b; cases a <;> cases b <;> rfl : ∀ a b : Bool, (a == b) = (!(a != b))) _ _)), H', ⟨by have := HJ4.out; first | omega | exact Nat.le_refl _⟩, ⟨by (with_reducible repeat (first | apply Kd.S_alloc | apply Kd.S_drewN | apply Kd.S_drew)); exact Kd.S_mono HO127.out (fun _ hk => ⟨hk.1.2, hk.2⟩)⟩, ⟨by (with_reducible repeat (first | apply Kd.S_alloc | apply Kd.S_drewN | apply Kd.S_drew)); exact Kd.S_mono HO133.out (fun _ hk => ⟨hk.1.1.2, hk.2⟩)⟩, ⟨by (with_reducible repeat (first | apply Kd.S_alloc | apply Kd.S_drewN | apply Kd.S_drew)); exact Kd.S_mono HO136.out (fun _ hk => ⟨hk.1.1.2, hk.2⟩)⟩, ⟨by repeat (first | (with_reducible first | exact HB.out | apply below_alloc | apply pw_below_drewN | apply below_drew1) | exact HB.out)⟩⟩
                case rest =>
                  clear HC15
                  try clear c1
                  try clear c2
                  try clear p2
                  try clear c4
                  try clear p6
                  try clear c7
                  try clear c7b0
                  try clear c7b1
                  try clear c8
                  try clear c9
                  try clear c10
                  try clear c12
                  try clear c24
                  try clear c24b0
                  try clear c24b1
                  try clear p2
                  obtain ⟨kq, x53_14, rfl, HA, HJ14, HO_7, HO_9, HO_10, HB⟩ := hcut
                  cases kq with
                  | zero => exact absurd HA.out (by simp [seinelaw02_LinesParts.j1])
                  | succ kj14 =>
                    have H := HA.out
                    clear HA
                    simp only [seinelaw02_LinesParts.j1] at H
                    by_cases c32 : x53_14 = true
                    · subst c32
                      have H1 : (none) = some r := by rw [if_pos rfl] at H; exact H
                      clear H
                      have H := H1
                      clear H1
                      exact absurd H (by simp)
                    · replace c32 := Bool.eq_false_iff.mpr c32
                      subst c32
                      have H1 : (if 0 ≤ (t125.length : Int) then (if (t125.length : Int) ≤ (t131.length : Int) then ((seinelaw02_same.f kj14 (t131.take ((t125.length : Int) : Int).toNat) t125 0).bind fun t142 => (if t142 = true then ((seinelaw02_same.f kj14 (t131.drop ((t125.length : Int) : Int).toNat) t134 (y122.length : Int)).bind fun t147 => (some t147)) else (none))) else (none)) else (none)) = some r := by rw [if_neg (show ¬ (false = true) by decide)] at H; exact H
                      clear H
                      have H := H1
                      clear H1
                      by_cases c33 : 0 ≤ (t125.length : Int)
                      · rw [if_pos c33] at H
                        have c33b0 := eq_true c33
                        have c33b1 : decide (0 ≤ (t125.length : Int)) = true := decide_eq_true c33
                        clear c33
                        by_cases c34 : (t125.length : Int) ≤ (t131.length : Int)
                        · rw [if_pos c34] at H
                          have c34b0 := eq_true c34
                          have c34b1 : decide ((t125.length : Int) ≤ (t131.length : Int)) = true := decide_eq_true c34
                          clear c34
                          obtain ⟨y138, hy138⟩ : ∃ y_ : List (S31), y_ = (t131.take ((t125.length : Int) : Int).toNat) := ⟨_, rfl⟩
                          replace H : ((seinelaw02_same.f kj14 y138 t125 0).bind fun t142 => (if t142 = true then ((seinelaw02_same.f kj14 (t131.drop ((t125.length : Int) : Int).toNat) t134 (y122.length : Int)).bind fun t147 => (some t147)) else (none))) = some r := by first | (rw [hy138]; with_reducible exact H) | (have H2_ := (Option.bind_some _ _).symm.trans H; rw [hy138]; with_reducible exact H2_) | (have H2_ := (Option.bind_some _ _).symm.trans H; with_reducible exact H2_) | with_reducible exact H | (rw [hy138]; exact H) | exact H
                          have Ny138 := Aside0.mk hy138
                          clear hy138
                          replace H := Option.bind_eq_some_iff.mp H
                          obtain ⟨t142, A350, H⟩ := H
                          replace H : (if t142 = true then ((seinelaw02_same.f kj14 (t131.drop ((t125.length : Int) : Int).toNat) t134 (y122.length : Int)).bind fun t147 => (some t147)) else (none)) = some r := H
                          have A35 := Aside0.mk A350
                          clear A350
                          by_cases c36 : t142 = true
                          · subst c36
                            have H1 : ((seinelaw02_same.f kj14 (t131.drop ((t125.length : Int) : Int).toNat) t134 (y122.length : Int)).bind fun t147 => (some t147)) = some r := by rw [if_pos rfl] at H; exact H
                            clear H
                            have H := H1
                            clear H1
                            have c37b0 := eq_true (of_decide_eq_true (by first | (with_reducible assumption) | assumption) : 0 ≤ (t125.length : Int))
                            have c38b0 := eq_true (of_decide_eq_true (by first | (with_reducible assumption) | assumption) : (t125.length : Int) ≤ (t131.length : Int))
                            obtain ⟨y143, hy143⟩ : ∃ y_ : List (S31), y_ = (t131.drop ((t125.length : Int) : Int).toNat) := ⟨_, rfl⟩
                            replace H : ((seinelaw02_same.f kj14 y143 t134 (y122.length : Int)).bind fun t147 => (some t147)) = some r := by first | (rw [hy143]; with_reducible exact H) | (have H2_ := (Option.bind_some _ _).symm.trans H; rw [hy143]; with_reducible exact H2_) | (have H2_ := (Option.bind_some _ _).symm.trans H; with_reducible exact H2_) | with_reducible exact H | (rw [hy143]; exact H) | exact H
                            have Ny143 := Aside0.mk hy143
                            clear hy143
                            replace H := Option.bind_eq_some_iff.mp H
                            obtain ⟨t147, A390, H⟩ := H
                            replace H : (some t147) = some r := H
                            have A39 := Aside0.mk A390
                            clear A390
                            obtain rfl := Option.some.inj H
                            obtain ⟨Ao40, co40, eo40⟩ := Kd.S_slice HO_7.out
                            subst eo40
                            obtain ⟨Ao42, co42, eo42⟩ := Kd.S_slice HO_9.out
                            subst eo42
                            have q41 : ((t125.length : Int) : Int) ≤ ((t131.length : Int) : Int) := of_decide_eq_true (by first | (with_reducible assumption) | assumption)
                            obtain ⟨i041, hi041, _, hsz41, _⟩ := info_parts info31
                            have hroom41 : t131.length ≤ co42 := (Kd.S_reads' HO_9.out).2.1
                            have hC41 : Kd.C k31 _ Ao42 t131.length t131 := (Kd.S_reads' HO_9.out).2.2
                            have hcut41 := cut_to (P := Try.prog) 24 31 .i64 Try.underlying24 hi041 Ao42 t131.length co42 (t125.length : Int) (of_decide_eq_true (by first | (with_reducible assumption) | assumption)) q41 hroom41
                            have hr41 := Kd.C_take (m := ((t125.length : Int) : Int).toNat) hC41 (by omega)
                            have hy41 : y138.length = ((t125.length : Int) : Int).toNat := (by rw [Ny138.out, List.length_take]; omega)
                            rw [← Ny138.out] at hr41
                            rw [← hy41] at hcut41
                            have HR141 := Aside0.mk hr41
                            have HC141 := Aside0.mk (show y138.length ≤ co42 from by omega)
                            clear hr41 hC41 hroom41 hi041 hsz41
                            have KY41 := Aside0.mk hy41
                            clear hy41
                            have KL41 := Aside0.mk (show ((t125.length : Int) : Int).toNat ≤ t131.length from by omega)
                            replace q41 := eq_true q41
                            go_wp2_with (first | ((with_reducible refine gate_callee (f := 16) rfl ?_); refine goesL_ (some 59) rfl rfl Try.func16 (by kernel_rfl) rfl #[.slice Ao42 y138.length co42, .slice Ao40 t125.length co40, .int .i64 0] rfl (by (try simp only [List.map_toArray, List.map_cons, List.map_nil]); first | done | rfl | (simp only [List.length_drop, List.length_take]; rfl)) ?_; (with_reducible refine (seinelaw02_same.calls kj14 _ _ y138 _ _ t125 0 true _ ?side1 ?side2 ?side3 ?side4 A35.out).mono ?_); (case side1 => repeat (first | exact (by repeat (first | (with_reducible exact HR141.out) | (with_reducible refine Kd.C_alloc ?_ _) | (with_reducible refine Kd.C_drewN ?_ _) | (with_reducible refine Kd.C_drew ?_) | exact HR141.out)) | (with_reducible refine Kd.C_alloc ?_ _) | (with_reducible refine Kd.C_drewN ?_ _) | (with_reducible refine Kd.C_drew ?_))); (case side2 => exact HC141.out); (case side3 => repeat (first | exact (Kd.S_reads' HO_7.out).2.2 | (with_reducible refine Kd.C_alloc ?_ _) | (with_reducible refine Kd.C_drewN ?_ _) | (with_reducible refine Kd.C_drew ?_))); (case side4 => exact (Kd.S_reads' HO_7.out).2.1); rintro e w' ⟨rfl, ⟨nd, rfl⟩⟩; refine ⟨_, rfl, ?_⟩; have q43 : ((t125.length : Int) : Int) ≤ ((t131.length : Int) : Int) := of_decide_eq_true (by first | (with_reducible assumption) | assumption); obtain ⟨i043, hi043, _, hsz43, _⟩ := info_parts info31; have hroom43 : t131.length ≤ co42 := (Kd.S_reads' HO_9.out).2.1; have hC43 : Kd.C k31 _ Ao42 t131.length t131 := (Kd.S_reads' HO_9.out).2.2; have q043 : (0 : Int) ≤ ((t125.length : Int) : Int) := of_decide_eq_true (by first | (with_reducible assumption) | assumption); have hcut43 := cut_from (P := Try.prog) 24 31 .i64 Try.underlying24 hi043 3 hsz43 Ao42 t131.length co42 (t125.length : Int) q043 q43; have hr43 := Kd.C_drop (m := ((t125.length : Int) : Int).toNat) (c := co42) hC43 (by omega) hroom43; obtain ⟨A43, hA43⟩ : ∃ A1, A1 = (if co42 = ((t125.length : Int) : Int).toNat then Ao42 else (Ao42 : Option Addr).map (·.add (((t125.length : Int) : Int).toNat * 3))) := ⟨_, rfl⟩; obtain ⟨c43, hc43⟩ : ∃ c1, c1 = co42 - ((t125.length : Int) : Int).toNat := ⟨_, rfl⟩; have hy43 : y143.length = t131.length - ((t125.length : Int) : Int).toNat := (by rw [Ny143.out, List.length_drop] <;> omega); rw [show (t131).drop ((t125.length : Int) : Int).toNat = y143 from Ny143.out.symm] at hr43; replace hr43 : Kd.C k31 _ A43 y143.length y143 := (by rw [hA43]; exact hr43); rw [← hy43, ← hA43, ← hc43] at hcut43; have HR146 := Aside0.mk hr43; have HC146 := Aside0.mk (show y143.length ≤ c43 from by rw [hy43, hc43]; exact Nat.sub_le_sub_right hroom43 _); clear hr43 hC43 hroom43 hi043 hsz43 hc43; have KY43 := Aside0.mk hy43; have KA43 := Aside0.mk hA43; clear hy43 hA43; have KL43 := Aside0.mk (show ((t125.length : Int) : Int).toNat ≤ t131.length from by omega); replace q43 := eq_true q43; obtain ⟨Ao44, co44, eo44⟩ := Kd.S_slice HO_10.out; subst eo44) | (go_at_call 16; (with_reducible refine (seinelaw02_same.calls kj14 _ _ y143 _ _ t134 (y122.length : Int) t147 _ ?side1 ?side2 ?side3 ?side4 A39.out).mono ?_); (case side1 => repeat (first | exact (by repeat (first | (with_reducible exact HR146.out) | (with_reducible refine Kd.C_alloc ?_ _) | (with_reducible refine Kd.C_drewN ?_ _) | (with_reducible refine Kd.C_drew ?_) | exact HR146.out)) | (with_reducible refine Kd.C_alloc ?_ _) | (with_reducible refine Kd.C_drewN ?_ _) | (with_reducible refine Kd.C_drew ?_))); (case side2 => exact HC146.out); (case side3 => repeat (first | exact (Kd.S_reads' HO_10.out).2.2 | (with_reducible refine Kd.C_alloc ?_ _) | (with_reducible refine Kd.C_drewN ?_ _) | (with_reducible refine Kd.C_drew ?_))); (case side4 => exact (Kd.S_reads' HO_10.out).2.1); rintro e w' ⟨rfl, ⟨nd, rfl⟩⟩))
                            go_ret
                            exact ⟨by first | rfl | (simp [errW_none, errW_some] <;> rfl) | (simp [*, errW_none, errW_some] <;> rfl), by repeat (first | (with_reducible first | exact HB.out | apply below_alloc | apply pw_below_drewN | apply below_drew1) | exact HB.out)⟩
                          · replace c36 := Bool.eq_false_iff.mpr c36
                            subst c36
                            have H1 : (none) = some r := by rw [if_neg (show ¬ (false = true) by decide)] at H; exact H
                            clear H
                            have H := H1
                            clear H1
                            exact absurd H (by simp)
                        · rw [if_neg c34] at H
                          exact absurd H (by simp)
                      · rw [if_neg c33] at H
                        exact absurd H (by simp)
              · rw [if_neg c12] at H
                exact absurd H (by simp)
            · rw [if_neg c10] at H
              exact absurd H (by simp)
          · rw [if_neg c9] at H
            exact absurd H (by simp)
  · replace c4 := Bool.eq_false_iff.mpr c4
    subst c4
    have H1 : (none) = some r := by rw [if_neg (show ¬ (false = true) by decide)] at H; exact H
    clear H
    have H := H1
    clear H1
    exact absurd H (by simp)

/-- THE ONE PURE STATEMENT of seinelaw02_LinesParts: yours. -/
def seinelaw02_LinesParts.Pure : Prop := ∀ (l0 : List Int) (l1 : List Int), l0.length ≤ maxLen → l0.length * 1 ≤ 140737488351232 → (∀ x ∈ l0, (Lit.int .u8 x).wf = true) → l1.length ≤ maxLen → l1.length * 1 ≤ 140737488351232 → (∀ x ∈ l1, (Lit.int .u8 x).wf = true) → ∃ k, seinelaw02_LinesParts.f k l0 l1 = some true
theorem seinelaw02_LinesParts.walk (P : seinelaw02_LinesParts.Pure) (a0 : Option Addr) (len0 cap0 : Nat) (z0 : List Int) (a1 : Option Addr) (len1 cap1 : Nat) (z1 : List Int) (w : World) (w0 : (a0 = none ∧ len0 = 0 ∧ cap0 = 0 ∧ z0 = []) ∨ ∃ x, a0 = some x ∧ len0 ≤ cap0 ∧ cap0 ≤ maxLen ∧ z0.length = cap0 ∧ (∀ i, i < z0.length → w.cell? (x.add i) = some (.int .u8 (z0.getD i 0))) ∧ ∀ n ∈ z0, (Lit.int .u8 n).wf = true) (y0 : len0 * 1 ≤ 140737488351232) (w1 : (a1 = none ∧ len1 = 0 ∧ cap1 = 0 ∧ z1 = []) ∨ ∃ x, a1 = some x ∧ len1 ≤ cap1 ∧ cap1 ≤ maxLen ∧ z1.length = cap1 ∧ (∀ i, i < z1.length → w.cell? (x.add i) = some (.int .u8 (z1.getD i 0))) ∧ ∀ n ∈ z1, (Lit.int .u8 n).wf = true) (y1 : len1 * 1 ≤ 140737488351232) :
    Calls Try.prog 7 #[.slice a0 len0 cap0, .slice a1 len1 cap1] w fun e w' => e = .returned (.bool true) ∧ Below w.heap.size w w' := by
  obtain ⟨l0, rfl, hr0, hm0, hw0, hc0⟩ := ReadsInt.ofRowC w0
  obtain ⟨l1, rfl, hr1, hm1, hw1, hc1⟩ := ReadsInt.ofRowC w1
  obtain ⟨k, h⟩ := P l0 l1 hm0 y0 hw0 hm1 y1 hw1
  refine (seinelaw02_LinesParts.calls k _ _ l0 _ _ l1 true w (Kd.C_of_reads (d := (0 : Int)) (h1 := fun _ => rfl) hr0) hc0 (Kd.C_of_reads (d := (0 : Int)) (h1 := fun _ => rfl) hr1) hc1 h).mono ?_
  rintro e w' ⟨rfl, hd⟩
  exact ⟨rfl, hd⟩

end Go.Proofs.Ytccpobbebfgpbaa.PLinesParts
