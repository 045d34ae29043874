/- Functions of the translation and what they come to: laid by a program of this session (xprint.py) beside contracts proved by hand. No condition. -/
import Derived.Test.YtccpobbebfgpbaaPLinesJoinx0
import Derived.Test.YtccpobbebfgpbaaPLinesJoinx1
namespace Go.Proofs.Ytccpobbebfgpbaa.PLinesJoin
open Go.RowKit Go.Proofs.YtccpobbebfgpbaaW.PrintWords Go.Proofs.YtccpobbebfgpbaaW.PrintLast Go.Proofs.YtccpobbebfgpbaaW.PrintMore
attribute [local go_sem] max2_int min2_int max_two min_two max_three min_three max_four min_four   -- for this text's walks alone
set_option linter.unusedVariables false
set_option linter.unusedSimpArgs false

theorem const_reads (w : World) (xs : List Int) (e : TypeId) (fr : Nat × Nat) (hm : xs.length ≤ 9223372036854775807) :
    Kd.C (Kd.int .u8) (w.alloc (.cells (xs.map (Value.int .u8)).toArray e fr)) (some ⟨w.heap.size, 0, none⟩) xs.length xs := by
  refine Kd.C_of_reads (d := (0 : Int)) (h1 := fun _ => rfl) ⟨rfl, hm, fun _ => ⟨_, rfl, fun j hj => ?_⟩⟩
  rw [add_plain, World.cell?_alloc_mark]
  simp [List.getD_eq_getElem?_getD, List.getElem?_eq_getElem hj]
def wa0 : List Int := [97, 10, 10, 98]
def wa1 : List Int := [97, 10]
def wa2 : List Int := [97, 10, 98]
def wa3 : List Int := [97]
def wl0 : List S31 := [⟨0, [97], true⟩, ⟨2, [], true⟩, ⟨3, [98], false⟩]
set_option maxHeartbeats 8000000 in
set_option maxRecDepth 100000 in
theorem awake_calls (w : World) :
    Calls Try.prog 9 #[] w fun e w' => e = .returned (.bool true) ∧ Below w.heap.size w w' := by
  have hu31 := Try.underlying31
  have kc := fun (w : World) (C : Array Value) (n c : Nat) => Lib.run_convert_bytes_const (P := Try.prog) w 22 5 C n c Try.underlying22 Try.underlying5
  have kc1 := kc w #[.int .u8 97, .int .u8 10, .int .u8 10, .int .u8 98] 4 4
  have HS := Aside0.mk (lines_Split.calls (some ⟨w.heap.size, 0, none⟩) 4 wa0 wl0 (w.alloc (.cells (wa0.map (Value.int .u8)).toArray 5 (4, 5))) (const_reads w wa0 5 (4, 5) (by decide)) (by decide) (by unfold lines_Split.f; rw [if_pos (by decide)]; rfl))
  have HB0 := Aside0.mk (below_alloc (Below.refl w.heap.size w) (.cells (wa0.map (Value.int .u8)).toArray 5 (4, 5)))
  go_enter Try.func9, Try.ntmps9
  go_wp2_with fail
  refine HS.out.mono ?_
  rintro e w1 ⟨v1, rfl, hs1, hb1⟩
  have hr1 := Kd.S_R hs1
  clear hs1
  obtain ⟨g, cap, rfl, _⟩ := Kd.R_form hr1 (by decide)
  obtain ⟨_, _, hC1⟩ := Kd.R_reads' hr1
  obtain ⟨ad0, A0, c0, e0, p0, p1, p2, p3, p4⟩ := at_T31 hC1 0 (by decide) (by decide)
  obtain ⟨ad1, A1, c1, e1, q0, q1, q2, q3, q4⟩ := at_T31 hC1 1 (by decide) (by decide)
  obtain ⟨ad2, A2, c2, e2, r0, r1, r2, r3, r4⟩ := at_T31 hC1 2 (by decide) (by decide)
  cases e0
  cases e1
  cases e2
  have s0 := Kd.C_string (P := Try.prog) (A := A0) (c := c0) Try.underlying22 Try.underlying5 Try.underlying9 p4
  have d0 : rd_T31 wl0 0 = ⟨0, [97], true⟩ := rfl
  have d1 : rd_T31 wl0 1 = ⟨2, [], true⟩ := rfl
  have d2 : rd_T31 wl0 2 = ⟨3, [98], false⟩ := rfl
  rw [d0] at p0 p1 p2 p3 p4 s0
  rw [d1] at q0 q1 q2 q3 q4
  rw [d2] at r0 r1 r2 r3 r4
  simp [Addr.add] at p0 p1 p2 q0 q1 q2 r0 r1 r2
  have hss : strOfNums [97] = ⟨#[97]⟩ := by decide +kernel
  rw [hss] at s0
  have s0' : (convert 22 9 (.slice A0 1 c0)).run Try.prog w1 = .ok (.string ⟨#[97]⟩) w1 := s0
  clear s0
  have HB1 := Aside0.mk (below_step HB0.out hb1)
  clear hr1 hC1 hb1 p4 q4 r4 p3 q3 r3 kc1 HS HB0
  have kc2 := kc w1 #[.int .u8 97, .int .u8 10] 2 2
  go_wp2_with fail
  refine (lines_Count.calls 20 (some ⟨w1.heap.size, 0, none⟩) 2 wa1 1 (w1.alloc (.cells (wa1.map (Value.int .u8)).toArray 5 (2, 3))) (const_reads w1 wa1 5 (2, 3) (by decide)) (by decide) (by decide +kernel)).mono ?_
  rintro e w2 ⟨rfl, hd⟩
  have HB2 := Aside0.mk (below_step (below_alloc HB1.out (.cells (wa1.map (Value.int .u8)).toArray 5 (2, 3))) hd.below)
  clear hd kc2 s0' p0 p1 p2 q0 q1 q2 r0 r1 r2
  have kc3 := kc w2 #[.int .u8 97, .int .u8 10, .int .u8 98] 3 3
  go_wp2_with fail
  refine (lines_Bare.calls 20 (some ⟨w2.heap.size, 0, none⟩) 3 wa2 2 (w2.alloc (.cells (wa2.map (Value.int .u8)).toArray 5 (3, 4))) (const_reads w2 wa2 5 (3, 4) (by decide)) (by decide) (by decide +kernel)).mono ?_
  rintro e w3 ⟨rfl, hd⟩
  have HB3 := Aside0.mk (below_step (below_alloc HB2.out (.cells (wa2.map (Value.int .u8)).toArray 5 (3, 4))) hd.below)
  clear hd kc3
  have kc4 := kc w3 #[.int .u8 97] 1 1
  have hC4 := const_reads w3 wa3 5 (1, 2) (by decide)
  have hJ : Kd.C (Kd.slice 5 (Kd.int .u8)) ((w3.alloc (.cells (wa3.map (Value.int .u8)).toArray 5 (1, 2))).alloc (.cells #[.slice (some ⟨w3.heap.size, 0, none⟩) 1 1, .slice none 0 0] 22)) (some ⟨w3.heap.size + 1, 0, none⟩) 2 [wa3, []] := by
    refine ⟨rfl, by decide, fun _ => ⟨_, rfl, fun j p hj => ?_⟩⟩
    have hb := blk_new (w3.alloc (.cells (wa3.map (Value.int .u8)).toArray 5 (1, 2))) (.cells #[.slice (some ⟨w3.heap.size, 0, none⟩) 1 1, .slice none 0 0] 22)
    rw [World.size_alloc] at hb
    have h0 := (blk_cell hb 0)
    have h1 := (blk_cell hb 1)
    match j, hj with
    | 0, hj =>
      cases hj
      exact ⟨[.slice (some ⟨w3.heap.size, 0, none⟩) 1 1], rfl, ⟨_, _, rfl, by decide, Kd.C_alloc hC4 _⟩, fun i u hu => by
        match i, hu with
        | 0, hu => cases hu; exact h0⟩
    | 1, hj =>
      cases hj
      exact ⟨[.slice none 0 0], rfl, ⟨_, _, rfl, by decide, Kd.C_nil _ _⟩, fun i u hu => by
        match i, hu with
        | 0, hu => cases hu; exact h1⟩
  have HJ := Aside0.mk (lines_Join.calls 20 (some ⟨w3.heap.size + 1, 0, none⟩) 2 [wa3, []] [97, 10, 10] _ hJ (by decide) (by decide +kernel))
  have HBJ := Aside0.mk (below_alloc (below_alloc HB3.out (.cells (wa3.map (Value.int .u8)).toArray 5 (1, 2))) (.cells #[.slice (some ⟨w3.heap.size, 0, none⟩) 1 1, .slice none 0 0] 22))
  clear hJ hC4
  go_wp2_with fail
  refine HJ.out.mono ?_
  rintro e w4 ⟨v4, rfl, hr4, hb4⟩
  obtain ⟨A4, c4, rfl, hd4, hC4⟩ := Kd.R_reads hr4
  have hcv := Kd.C_string (P := Try.prog) (A := A4) (c := c4) Try.underlying22 Try.underlying5 Try.underlying9 hC4
  have hss : strOfNums [97, 10, 10] = ⟨#[97, 10, 10]⟩ := by decide +kernel
  rw [hss] at hcv
  have hcv' : (convert 22 9 (.slice A4 3 c4)).run Try.prog w4 = .ok (.string ⟨#[97, 10, 10]⟩) w4 := hcv
  have HB4 := Aside0.mk (below_step HBJ.out hb4)
  clear hcv hss hr4 hb4 hC4 hd4 kc4 HJ HBJ
  go_wp2
  go_ret
  exact ⟨rfl, HB4.out⟩
def seinelaw02_awake.f : Option Bool := some true
theorem seinelaw02_awake.calls (r : Bool) (w : World) (h : seinelaw02_awake.f = some r) :
    Calls Try.prog 9 #[] w fun e w' => e = .returned (.bool r) ∧ Below w.heap.size w w' := by
  obtain rfl := Option.some.inj h
  exact awake_calls w

/-! ### seinelaw02_LinesJoin: function 6 -/
mutual
def seinelaw02_LinesJoin.l0 : Nat → List (List Int) → Int → Int → Option (Bool)
  | 0, _, _, _ => none
  | k + 1, x0, x4, x5 => if x5 < (x0.length : Int) then (if 0 ≤ x5 then (if ((rd_L1 x0 x5).length : Int) > 100 then (some true) else (seinelaw02_LinesJoin.l1 k x0 x4 x5 0)) else (none)) else ((lines_Join.f k x0).bind fun t118 => ((lines_Split.f t118).bind fun t121 => (if (t121.length : Int) = (x0.length : Int) then ((lines_Bare.f k t118).bind fun t124 => (if t124 = x4 then (if (t118.length : Int) = (wrap64 (x4 + (x0.length : Int))) then ((lines_Count.f k t118).bind fun t125 => (seinelaw02_LinesJoin.j2 k x0 t121 (t125 != (x0.length : Int)))) else (seinelaw02_LinesJoin.j2 k x0 t121 true)) else (seinelaw02_LinesJoin.j2 k x0 t121 true))) else (seinelaw02_LinesJoin.j2 k x0 t121 true))))
def seinelaw02_LinesJoin.l1 : Nat → List (List Int) → Int → Int → Int → Option (Bool)
  | 0, _, _, _, _ => none
  | k + 1, x0, x4, x5, x6 => if 0 ≤ x5 then (if x5 < (x0.length : Int) then (if x6 < ((rd_L1 x0 x5).length : Int) then (if 0 ≤ x6 then (if (rd (rd_L1 x0 x5) x6) = 10 then (some true) else (seinelaw02_LinesJoin.l1 k x0 x4 x5 (wrap64 (x6 + 1)))) else (none)) else (seinelaw02_LinesJoin.l0 k x0 (wrap64 (x4 + ((rd_L1 x0 x5).length : Int))) (wrap64 (x5 + 1)))) else (none)) else (none)
def seinelaw02_LinesJoin.j2 : Nat → List (List Int) → List (S31) → Bool → Option (Bool)
  | 0, _, _, _ => none
  | k + 1, x0, x8, x82 => if x82 = true then (none) else (seinelaw02_LinesJoin.l2 k x0 x8 0)
def seinelaw02_LinesJoin.l2 : Nat → List (List Int) → List (S31) → Int → Option (Bool)
  | 0, _, _, _ => none
  | k + 1, x0, x8, x9 => if x9 < (x0.length : Int) then (if 0 ≤ x9 then (if x9 < (x8.length : Int) then (if (strOfNums ((rd_T31 x8 x9).f1)).toList = (strOfNums (rd_L1 x0 x9)).toList then (if ((rd_T31 x8 x9).f2 = true) then (seinelaw02_LinesJoin.l2 k x0 x8 (wrap64 (x9 + 1))) else (none)) else (none)) else (none)) else (none)) else (some true)
end
def seinelaw02_LinesJoin.f (k : Nat) (l0 : List (List Int)) : Option (Bool) := (seinelaw02_awake.f).bind fun t112 => (if t112 = true then (if (l0.length : Int) > 40 then (some true) else (seinelaw02_LinesJoin.l0 k l0 0 0)) else (none))
theorem seinelaw02_LinesJoin.mono_l : ∀ k, (∀ y0 y1 y2, LeO (seinelaw02_LinesJoin.l0 k y0 y1 y2) (seinelaw02_LinesJoin.l0 (k + 1) y0 y1 y2)) ∧ (∀ y0 y1 y2 y3, LeO (seinelaw02_LinesJoin.l1 k y0 y1 y2 y3) (seinelaw02_LinesJoin.l1 (k + 1) y0 y1 y2 y3)) ∧ (∀ y0 y1 y2, LeO (seinelaw02_LinesJoin.j2 k y0 y1 y2) (seinelaw02_LinesJoin.j2 (k + 1) y0 y1 y2)) ∧ (∀ y0 y1 y2, LeO (seinelaw02_LinesJoin.l2 k y0 y1 y2) (seinelaw02_LinesJoin.l2 (k + 1) y0 y1 y2))
  | 0 => ⟨fun _ _ _ r h => by simp [seinelaw02_LinesJoin.l0] at h, fun _ _ _ _ r h => by simp [seinelaw02_LinesJoin.l1] at h, fun _ _ _ r h => by simp [seinelaw02_LinesJoin.j2] at h, fun _ _ _ r h => by simp [seinelaw02_LinesJoin.l2] at h⟩
  | k + 1 => by
    obtain ⟨ih0, ih1, ih2, ih3⟩ := seinelaw02_LinesJoin.mono_l k
    refine ⟨?_, ?_, ?_, ?_⟩
    · intro y0 y1 y2
      unfold seinelaw02_LinesJoin.l0
      repeat' first
      | (with_reducible exact ih0 _ _ _)
      | (with_reducible exact ih1 _ _ _ _)
      | (with_reducible exact ih2 _ _ _)
      | (with_reducible exact ih3 _ _ _)
      | (with_reducible exact lines_Bare.mono _ _)
      | (with_reducible exact lines_Count.mono _ _)
      | (with_reducible exact lines_Join.mono _ _)
      | (with_reducible exact LeO.refl _)
      | (with_reducible exact LeO.none _)
      | (with_reducible refine LeO.ite ?_ ?_)
      | (with_reducible refine LeO.bind ?_ (fun _ => ?_))
      | exact ih0 _ _ _
      | exact ih1 _ _ _ _
      | exact ih2 _ _ _
      | exact ih3 _ _ _
      | exact lines_Bare.mono _ _
      | exact lines_Count.mono _ _
      | exact lines_Join.mono _ _
      | exact LeO.none _
      | refine LeO.ite ?_ ?_
      | refine LeO.bind ?_ (fun _ => ?_)
    · intro y0 y1 y2 y3
      unfold seinelaw02_LinesJoin.l1
      repeat' first
      | (with_reducible exact ih0 _ _ _)
      | (with_reducible exact ih1 _ _ _ _)
      | (with_reducible exact ih2 _ _ _)
      | (with_reducible exact ih3 _ _ _)
      | (with_reducible exact lines_Bare.mono _ _)
      | (with_reducible exact lines_Count.mono _ _)
      | (with_reducible exact lines_Join.mono _ _)
      | (with_reducible exact LeO.refl _)
      | (with_reducible exact LeO.none _)
      | (with_reducible refine LeO.ite ?_ ?_)
      | (with_reducible refine LeO.bind ?_ (fun _ => ?_))
      | exact ih0 _ _ _
      | exact ih1 _ _ _ _
      | exact ih2 _ _ _
      | exact ih3 _ _ _
      | exact lines_Bare.mono _ _
      | exact lines_Count.mono _ _
      | exact lines_Join.mono _ _
      | exact LeO.none _
      | refine LeO.ite ?_ ?_
      | refine LeO.bind ?_ (fun _ => ?_)
    · intro y0 y1 y2
      unfold seinelaw02_LinesJoin.j2
      repeat' first
      | (with_reducible exact ih0 _ _ _)
      | (with_reducible exact ih1 _ _ _ _)
      | (with_reducible exact ih2 _ _ _)
      | (with_reducible exact ih3 _ _ _)
      | (with_reducible exact lines_Bare.mono _ _)
      | (with_reducible exact lines_Count.mono _ _)
      | (with_reducible exact lines_Join.mono _ _)
      | (with_reducible exact LeO.refl _)
      | (with_reducible exact LeO.none _)
      | (with_reducible refine LeO.ite ?_ ?_)
      | (with_reducible refine LeO.bind ?_ (fun _ => ?_))
      | exact ih0 _ _ _
      | exact ih1 _ _ _ _
      | exact ih2 _ _ _
      | exact ih3 _ _ _
      | exact lines_Bare.mono _ _
      | exact lines_Count.mono _ _
      | exact lines_Join.mono _ _
      | exact LeO.none _
      | refine LeO.ite ?_ ?_
      | refine LeO.bind ?_ (fun _ => ?_)
    · intro y0 y1 y2
      unfold seinelaw02_LinesJoin.l2
      repeat' first
      | (with_reducible exact ih0 _ _ _)
      | (with_reducible exact ih1 _ _ _ _)
      | (with_reducible exact ih2 _ _ _)
      | (with_reducible exact ih3 _ _ _)
      | (with_reducible exact lines_Bare.mono _ _)
      | (with_reducible exact lines_Count.mono _ _)
      | (with_reducible exact lines_Join.mono _ _)
      | (with_reducible exact LeO.refl _)
      | (with_reducible exact LeO.none _)
      | (with_reducible refine LeO.ite ?_ ?_)
      | (with_reducible refine LeO.bind ?_ (fun _ => ?_))
      | exact ih0 _ _ _
      | exact ih1 _ _ _ _
      | exact ih2 _ _ _
      | exact ih3 _ _ _
      | exact lines_Bare.mono _ _
      | exact lines_Count.mono _ _
      | exact lines_Join.mono _ _
      | exact LeO.none _
      | refine LeO.ite ?_ ?_
      | refine LeO.bind ?_ (fun _ => ?_)
theorem seinelaw02_LinesJoin.mono : ∀ a0 k, LeO (seinelaw02_LinesJoin.f k a0) (seinelaw02_LinesJoin.f (k + 1) a0) := by
  intro a0 k
  obtain ⟨ih0, ih1, ih2, ih3⟩ := seinelaw02_LinesJoin.mono_l k
  unfold seinelaw02_LinesJoin.f
  repeat' first
      | (with_reducible exact ih0 _ _ _)
      | (with_reducible exact ih1 _ _ _ _)
      | (with_reducible exact ih2 _ _ _)
      | (with_reducible exact ih3 _ _ _)
      | (with_reducible exact lines_Bare.mono _ _)
      | (with_reducible exact lines_Count.mono _ _)
      | (with_reducible exact lines_Join.mono _ _)
      | (with_reducible exact LeO.refl _)
      | (with_reducible exact LeO.none _)
      | (with_reducible refine LeO.ite ?_ ?_)
      | (with_reducible refine LeO.bind ?_ (fun _ => ?_))
      | exact ih0 _ _ _
      | exact ih1 _ _ _ _
      | exact ih2 _ _ _
      | exact ih3 _ _ _
      | exact lines_Bare.mono _ _
      | exact lines_Count.mono _ _
      | exact lines_Join.mono _ _
      | exact LeO.none _
      | refine LeO.ite ?_ ?_
      | refine LeO.bind ?_ (fun _ => ?_)
set_option maxHeartbeats 8000000 in
set_option maxRecDepth 100000 in
theorem seinelaw02_LinesJoin.calls (k : Nat) (A0 : Option Addr) (c0 : Nat) (l0 : List (List Int)) (r : Bool) (w : World) (hr0 : Kd.C (Kd.slice 5 (Kd.int .u8)) w A0 l0.length l0) (hc0 : l0.length ≤ c0) (h : seinelaw02_LinesJoin.f k l0 = some r) :
    Calls Try.prog 6 #[.slice A0 l0.length c0] w fun e w' => e = .returned (.bool r) ∧ Below w.heap.size w w' := by
  have HR0 := Aside0.mk hr0
  have HC0 := Aside0.mk hc0
  clear hr0 hc0
  have HB := Aside0.mk (Below.refl w.heap.size w)
  have H : ((seinelaw02_awake.f).bind fun t112 => (if t112 = true then (if (l0.length : Int) > 40 then (some true) else (seinelaw02_LinesJoin.l0 k l0 0 0)) else (none))) = some r := h
  clear h
  replace H := Option.bind_eq_some_iff.mp H
  obtain ⟨t112, A20, H⟩ := H
  replace H : (if t112 = true then (if (l0.length : Int) > 40 then (some true) else (seinelaw02_LinesJoin.l0 k l0 0 0)) else (none)) = some r := H
  have A2 := Aside0.mk A20
  clear A20
  by_cases c3 : t112 = true
  · subst c3
    have H1 : (if (l0.length : Int) > 40 then (some true) else (seinelaw02_LinesJoin.l0 k l0 0 0)) = some r := by rw [if_pos rfl] at H; exact H
    clear H
    have H := H1
    clear H1
    by_cases c4 : (l0.length : Int) > 40
    · rw [if_pos c4] at H
      have c4b0 : decide (40 < (l0.length : Int)) = true := decide_eq_true c4
      have c4b1 : decide (40 < l0.length) = true := decide_eq_true (by omega)
      clear c4
      obtain rfl := Option.some.inj H
      go_enter Try.func6, Try.ntmps6
      go_wp2_with (first | (go_at_call 9; (with_reducible refine (seinelaw02_awake.calls  true _ A2.out).mono ?_); rintro e w5 ⟨rfl, hb⟩; have n0_ := Aside0.mk (below_step (by repeat (first | (with_reducible first | exact HB.out | apply below_alloc | apply pw_below_drewN | apply below_drew1) | exact HB.out)) hb); clear HB; have HB := n0_; clear n0_; (try clear hb); (try clear hb2); (try clear hk); (try clear hi)))
      repeat (go_quiet (first | (go_at_call 9; (with_reducible refine (seinelaw02_awake.calls  true _ A2.out).mono ?_); rintro e w5 ⟨rfl, hb⟩; have n0_ := Aside0.mk (below_step (by repeat (first | (with_reducible first | exact HB.out | apply below_alloc | apply pw_below_drewN | apply below_drew1) | exact HB.out)) hb); clear HB; have HB := n0_; clear n0_; (try clear hb); (try clear hb2); (try clear hk); (try clear hi))); try go_wp2_with (first | (go_at_call 9; (with_reducible refine (seinelaw02_awake.calls  true _ A2.out).mono ?_); rintro e w5 ⟨rfl, hb⟩; have n0_ := Aside0.mk (below_step (by repeat (first | (with_reducible first | exact HB.out | apply below_alloc | apply pw_below_drewN | apply below_drew1) | exact HB.out)) hb); clear HB; have HB := n0_; clear n0_; (try clear hb); (try clear hb2); (try clear hk); (try clear hi))))
      go_ret
      exact ⟨by first | rfl | (simp [errW_none, errW_some] <;> rfl) | (simp [*, errW_none, errW_some] <;> rfl), by repeat (first | (with_reducible first | exact HB.out | apply below_alloc | apply pw_below_drewN | apply below_drew1) | exact HB.out)⟩
    · rw [if_neg c4] at H
      have c4b0 : decide (40 < (l0.length : Int)) = false := decide_eq_false c4
      have c4b1 : decide (40 < l0.length) = false := decide_eq_false (by omega)
      clear c4
      have H' := Aside0.mk H
      clear H
      go_enter Try.func6, Try.ntmps6
      go_wp2_with (first | (go_at_call 9; (with_reducible refine (seinelaw02_awake.calls  true _ A2.out).mono ?_); rintro e w6 ⟨rfl, hb⟩; have n0_ := Aside0.mk (below_step (by repeat (first | (with_reducible first | exact HB.out | apply below_alloc | apply pw_below_drewN | apply below_drew1) | exact HB.out)) hb); clear HB; have HB := n0_; clear n0_; (try clear hb); (try clear hb2); (try clear hk); (try clear hi)))
      repeat (go_quiet (first | (go_at_call 9; (with_reducible refine (seinelaw02_awake.calls  true _ A2.out).mono ?_); rintro e w6 ⟨rfl, hb⟩; have n0_ := Aside0.mk (below_step (by repeat (first | (with_reducible first | exact HB.out | apply below_alloc | apply pw_below_drewN | apply below_drew1) | exact HB.out)) hb); clear HB; have HB := n0_; clear n0_; (try clear hb); (try clear hb2); (try clear hk); (try clear hi))); try go_wp2_with (first | (go_at_call 9; (with_reducible refine (seinelaw02_awake.calls  true _ A2.out).mono ?_); rintro e w6 ⟨rfl, hb⟩; have n0_ := Aside0.mk (below_step (by repeat (first | (with_reducible first | exact HB.out | apply below_alloc | apply pw_below_drewN | apply below_drew1) | exact HB.out)) hb); clear HB; have HB := n0_; clear n0_; (try clear hb); (try clear hb2); (try clear hk); (try clear hi))))
      go_loopg [4, 5] k (fun kq v4 v5 w' => ∃ (x4_1 : Int) (x5_1 : Int), v4 = .int .i64 x4_1 ∧ v5 = .int .i64 x5_1 ∧ Aside0 (seinelaw02_LinesJoin.l0 kq l0 x4_1 x5_1 = some r) ∧ Aside0 (kq ≤ k) ∧ Aside0 (Below w.heap.size w w'))
      case atStart => exact ⟨(0), (0), (by first | rfl | (simp; done) | (simp [*]; done) | (simp; exact (by intro a b; cases a <;> cases b <;> rfl : ∀ a b : Bool, (a == b) = (!(a != b))) _ _)), (by first | rfl | (simp; done) | (simp [*]; done) | (simp; exact (by intro a b; cases a <;> cases b <;> rfl : ∀ a b : Bool, (a == b) = (!(a != b))) _ _)), H', ⟨Nat.le_refl _⟩, ⟨by repeat (first | (with_reducible first | exact HB.out | apply below_alloc | apply pw_below_drewN | apply below_drew1) | exact HB.out)⟩⟩
      case round =>
        clear H'
        try clear p2
        try clear c3
        try clear c4
        try clear c4b0
        try clear c4b1
        try clear c6
        obtain ⟨x4_1, x5_1, rfl, rfl, HA, HK1, HB⟩ := hrel
        cases gk with
        | zero => exact absurd HA.out (by simp [seinelaw02_LinesJoin.l0])
        | succ k1 =>
          have H := HA.out
          clear HA
          simp only [seinelaw02_LinesJoin.l0] at H
          by_cases c7 : x5_1 < (l0.length : Int)
          · rw [if_pos c7] at H
            have c7b0 : decide (x5_1 < (l0.length : Int)) = true := decide_eq_true c7
            clear c7
            by_cases c8 : 0 ≤ x5_1
            · rw [if_pos c8] at H
              have c8b0 : decide (0 ≤ x5_1) = true := decide_eq_true c8
              clear c8
              by_cases c9 : ((rd_L1 l0 x5_1).length : Int) > 100
              · rw [if_pos c9] at H
                have c9b0 : decide (100 < ((rd_L1 l0 x5_1).length : Int)) = true := decide_eq_true c9
                have c9b1 : decide (100 < (rd_L1 l0 x5_1).length) = true := decide_eq_true (by omega)
                clear c9
                obtain rfl := Option.some.inj H
                have p113 : 0 ≤ (x5_1 : Int) := of_decide_eq_true (by first | (with_reducible assumption) | assumption)
                have q113 : x5_1 < (l0.length : Int) := of_decide_eq_true (by first | (with_reducible assumption) | assumption)
                obtain ⟨ad113, A113_0, c113_0, e113, hx113_0, hl113_0, hi113_0⟩ := at_L1 HR0.out x5_1 p113 q113
                cases e113
                replace hx113_0 := (HB.out.cell (World.block_lt_of_cell? w _ hx113_0)).trans hx113_0
                have HR113_0 := Aside0.mk hi113_0
                have HC113_0 := Aside0.mk hl113_0
                clear hi113_0 hl113_0
                replace p113 := eq_true p113
                replace q113 := eq_true q113
                go_wp2
                repeat (go_quiet (fail); try go_wp2)
                go_ret
                exact ⟨by first | rfl | (simp [errW_none, errW_some] <;> rfl) | (simp [*, errW_none, errW_some] <;> rfl), by repeat (first | (with_reducible first | exact HB.out | apply below_alloc | apply pw_below_drewN | apply below_drew1) | exact HB.out)⟩
              · rw [if_neg c9] at H
                have c9b0 : decide (100 < ((rd_L1 l0 x5_1).length : Int)) = false := decide_eq_false c9
                have c9b1 : decide (100 < (rd_L1 l0 x5_1).length) = false := decide_eq_false (by omega)
                clear c9
                have H' := Aside0.mk H
                clear H
                have p113 : 0 ≤ (x5_1 : Int) := of_decide_eq_true (by first | (with_reducible assumption) | assumption)
                have q113 : x5_1 < (l0.length : Int) := of_decide_eq_true (by first | (with_reducible assumption) | assumption)
                obtain ⟨ad113, A113_0, c113_0, e113, hx113_0, hl113_0, hi113_0⟩ := at_L1 HR0.out x5_1 p113 q113
                cases e113
                replace hx113_0 := (HB.out.cell (World.block_lt_of_cell? w _ hx113_0)).trans hx113_0
                have HR113_0 := Aside0.mk hi113_0
                have HC113_0 := Aside0.mk hl113_0
                clear hi113_0 hl113_0
                replace p113 := eq_true p113
                replace q113 := eq_true q113
                go_wp2
                repeat (go_quiet (fail); try go_wp2)
                go_loopg [6] k1 (fun kq v6 w' => ∃ (x6_2 : Int), v6 = .int .i64 x6_2 ∧ Aside0 (seinelaw02_LinesJoin.l1 kq l0 x4_1 x5_1 x6_2 = some r) ∧ Aside0 (kq ≤ k1) ∧ Aside0 (Below w.heap.size w w'))
                case atStart => exact ⟨(0), (by first | rfl | (simp; done) | (simp [*]; done) | (simp; exact (by intro a b; cases a <;> cases b <;> rfl : ∀ a b : Bool, (a == b) = (!(a != b))) _ _)), H', ⟨Nat.le_refl _⟩, ⟨by repeat (first | (with_reducible first | exact HB.out | apply below_alloc | apply pw_below_drewN | apply below_drew1) | exact HB.out)⟩⟩
                case round =>
                  clear H'
                  try clear c1
                  try clear p1
                  try clear q1
                  try clear hx1
                  try clear p2
                  try clear c3
                  try clear c4
                  try clear c4b0
                  try clear c4b1
                  try clear c6
                  try clear c7
                  try clear c7b0
                  try clear c8
                  try clear c8b0
                  try clear c9
                  try clear c9b0
                  try clear c9b1
                  try clear hx113_0
                  try clear p113
                  try clear p2
                  try clear q113
                  obtain ⟨x6_2, rfl, HA, HK2, HB⟩ := hrel
                  cases gk with
                  | zero => exact absurd HA.out (by simp [seinelaw02_LinesJoin.l1])
                  | succ k2 =>
                    have H := HA.out
                    clear HA
                    simp only [seinelaw02_LinesJoin.l1] at H
                    by_cases c10 : 0 ≤ x5_1
                    · rw [if_pos c10] at H
                      have c10b0 : decide (0 ≤ x5_1) = true := decide_eq_true c10
                      clear c10
                      by_cases c11 : x5_1 < (l0.length : Int)
                      · rw [if_pos c11] at H
                        have c11b0 : decide (x5_1 < (l0.length : Int)) = true := decide_eq_true c11
                        clear c11
                        by_cases c12 : x6_2 < ((rd_L1 l0 x5_1).length : Int)
                        · rw [if_pos c12] at H
                          have c12b0 : decide (x6_2 < ((rd_L1 l0 x5_1).length : Int)) = true := decide_eq_true c12
                          clear c12
                          by_cases c13 : 0 ≤ x6_2
                          · rw [if_pos c13] at H
                            have c13b0 : decide (0 ≤ x6_2) = true := decide_eq_true c13
                            clear c13
                            by_cases c14 : (rd (rd_L1 l0 x5_1) x6_2) = 10
                            · rw [if_pos c14] at H
                              have c14b0 : ((rd (rd_L1 l0 x5_1) x6_2) == 10) = true := beq_iff_eq.mpr c14
                              have c14b1 : ((rd (rd_L1 l0 x5_1) x6_2) != 10) = false := bne_eq_false_iff_eq.mpr c14
                              clear c14
                              obtain rfl := Option.some.inj H
                              have p114 : 0 ≤ (x5_1 : Int) := of_decide_eq_true (by first | (with_reducible assumption) | assumption)
                              have q114 : x5_1 < (l0.length : Int) := of_decide_eq_true (by first | (with_reducible assumption) | assumption)
                              obtain ⟨ad114, A114_0, c114_0, e114, hx114_0, hl114_0, hi114_0⟩ := at_L1 HR0.out x5_1 p114 q114
                              obtain rfl : ad113 = ad114 := (by injection e114)
                              replace hx114_0 := (HB.out.cell (World.block_lt_of_cell? w _ hx114_0)).trans hx114_0
                              have HR114_0 := Aside0.mk hi114_0
                              have HC114_0 := Aside0.mk hl114_0
                              clear hi114_0 hl114_0
                              replace p114 := eq_true p114
                              replace q114 := eq_true q114
                              have p115 : 0 ≤ (x5_1 : Int) := of_decide_eq_true (by first | (with_reducible assumption) | assumption)
                              have q115 : x5_1 < (l0.length : Int) := of_decide_eq_true (by first | (with_reducible assumption) | assumption)
                              obtain ⟨ad115, A115_0, c115_0, e115, hx115_0, hl115_0, hi115_0⟩ := at_L1 HR0.out x5_1 p115 q115
                              obtain rfl : ad113 = ad115 := (by injection e115)
                              replace hx115_0 := (HB.out.cell (World.block_lt_of_cell? w _ hx115_0)).trans hx115_0
                              have HR115_0 := Aside0.mk hi115_0
                              have HC115_0 := Aside0.mk hl115_0
                              clear hi115_0 hl115_0
                              replace p115 := eq_true p115
                              replace q115 := eq_true q115
                              have ea_ := Option.some.inj (hx114_0.symm.trans hx115_0)
                              injection ea_ with ea_ en_ ec_
                              subst ea_
                              subst ec_
                              clear en_
                              have p116 : 0 ≤ (x6_2 : Int) := of_decide_eq_true (by first | (with_reducible assumption) | assumption)
                              have q116 : x6_2 < ((rd_L1 l0 x5_1).length : Int) := of_decide_eq_true (by first | (with_reducible assumption) | assumption)
                              obtain ⟨ad116, e116, hx116_0⟩ := Kd.at_int HR115_0.out x6_2 p116 q116
                              cases e116
                              replace hx116_0 := (HB.out.cell (World.block_lt_of_cell? w _ hx116_0)).trans hx116_0
                              replace p116 := eq_true p116
                              replace q116 := eq_true q116
                              go_wp2
                              repeat (go_quiet (fail); try go_wp2)
                              go_ret
                              exact ⟨by first | rfl | (simp [errW_none, errW_some] <;> rfl) | (simp [*, errW_none, errW_some] <;> rfl), by repeat (first | (with_reducible first | exact HB.out | apply below_alloc | apply pw_below_drewN | apply below_drew1) | exact HB.out)⟩
                            · rw [if_neg c14] at H
                              have c14b0 : ((rd (rd_L1 l0 x5_1) x6_2) == 10) = false := beq_eq_false_iff_ne.mpr c14
                              have c14b1 : ((rd (rd_L1 l0 x5_1) x6_2) != 10) = true := bne_iff_ne.mpr c14
                              have H' := Aside0.mk H
                              clear H
                              have p114 : 0 ≤ (x5_1 : Int) := of_decide_eq_true (by first | (with_reducible assumption) | assumption)
                              have q114 : x5_1 < (l0.length : Int) := of_decide_eq_true (by first | (with_reducible assumption) | assumption)
                              obtain ⟨ad114, A114_0, c114_0, e114, hx114_0, hl114_0, hi114_0⟩ := at_L1 HR0.out x5_1 p114 q114
                              obtain rfl : ad113 = ad114 := (by injection e114)
                              replace hx114_0 := (HB.out.cell (World.block_lt_of_cell? w _ hx114_0)).trans hx114_0
                              have HR114_0 := Aside0.mk hi114_0
                              have HC114_0 := Aside0.mk hl114_0
                              clear hi114_0 hl114_0
                              replace p114 := eq_true p114
                              replace q114 := eq_true q114
                              have p115 : 0 ≤ (x5_1 : Int) := of_decide_eq_true (by first | (with_reducible assumption) | assumption)
                              have q115 : x5_1 < (l0.length : Int) := of_decide_eq_true (by first | (with_reducible assumption) | assumption)
                              obtain ⟨ad115, A115_0, c115_0, e115, hx115_0, hl115_0, hi115_0⟩ := at_L1 HR0.out x5_1 p115 q115
                              obtain rfl : ad113 = ad115 := (by injection e115)
                              replace hx115_0 := (HB.out.cell (World.block_lt_of_cell? w _ hx115_0)).trans hx115_0
                              have HR115_0 := Aside0.mk hi115_0
                              have HC115_0 := Aside0.mk hl115_0
                              clear hi115_0 hl115_0
                              replace p115 := eq_true p115
                              replace q115 := eq_true q115
                              have ea_ := Option.some.inj (hx114_0.symm.trans hx115_0)
                              injection ea_ with ea_ en_ ec_
                              subst ea_
                              subst ec_
                              clear en_
                              have p116 : 0 ≤ (x6_2 : Int) := of_decide_eq_true (by first | (with_reducible assumption) | assumption)
                              have q116 : x6_2 < ((rd_L1 l0 x5_1).length : Int) := of_decide_eq_true (by first | (with_reducible assumption) | assumption)
                              obtain ⟨ad116, e116, hx116_0⟩ := Kd.at_int HR115_0.out x6_2 p116 q116
                              cases e116
                              replace hx116_0 := (HB.out.cell (World.block_lt_of_cell? w _ hx116_0)).trans hx116_0
                              replace p116 := eq_true p116
                              replace q116 := eq_true q116
                              go_wp2
                              repeat (go_quiet (fail); try go_wp2)
                              go_roundg k2
                              case measure => have := HK1.out; have := HK2.out; omega
                              case rel => exact ⟨(wrap64 (x6_2 + 1)), (by first | rfl | (simp; done) | (simp [*]; done) | (simp; exact (by intro a b; cases a <;> cases b <;> rfl : ∀ a b : Bool, (a == b) = (!(a != b))) _ _)), H', ⟨by have := HK1.out; have := HK2.out; omega⟩, ⟨by repeat (first | (with_reducible first | exact HB.out | apply below_alloc | apply pw_below_drewN | apply below_drew1) | exact HB.out)⟩⟩
                          · rw [if_neg c13] at H
                            exact absurd H (by simp)
                        · rw [if_neg c12] at H
                          have c12b0 : decide (x6_2 < ((rd_L1 l0 x5_1).length : Int)) = false := decide_eq_false c12
                          clear c12
                          have H' := Aside0.mk H
                          clear H
                          have p114 : 0 ≤ (x5_1 : Int) := of_decide_eq_true (by first | (with_reducible assumption) | assumption)
                          have q114 : x5_1 < (l0.length : Int) := of_decide_eq_true (by first | (with_reducible assumption) | assumption)
                          obtain ⟨ad114, A114_0, c114_0, e114, hx114_0, hl114_0, hi114_0⟩ := at_L1 HR0.out x5_1 p114 q114
                          obtain rfl : ad113 = ad114 := (by injection e114)
                          replace hx114_0 := (HB.out.cell (World.block_lt_of_cell? w _ hx114_0)).trans hx114_0
                          have HR114_0 := Aside0.mk hi114_0
                          have HC114_0 := Aside0.mk hl114_0
                          clear hi114_0 hl114_0
                          replace p114 := eq_true p114
                          replace q114 := eq_true q114
                          have p117 : 0 ≤ (x5_1 : Int) := of_decide_eq_true (by first | (with_reducible assumption) | assumption)
                          have q117 : x5_1 < (l0.length : Int) := of_decide_eq_true (by first | (with_reducible assumption) | assumption)
                          obtain ⟨ad117, A117_0, c117_0, e117, hx117_0, hl117_0, hi117_0⟩ := at_L1 HR0.out x5_1 p117 q117
                          obtain rfl : ad113 = ad117 := (by injection e117)
                          replace hx117_0 := (HB.out.cell (World.block_lt_of_cell? w _ hx117_0)).trans hx117_0
                          have HR117_0 := Aside0.mk hi117_0
                          have HC117_0 := Aside0.mk hl117_0
                          clear hi117_0 hl117_0
                          replace p117 := eq_true p117
                          replace q117 := eq_true q117
                          have ea_ := Option.some.inj (hx114_0.symm.trans hx117_0)
                          injection ea_ with ea_ en_ ec_
                          subst ea_
                          subst ec_
                          clear en_
                          go_wp2
                          repeat (go_quiet (fail); try go_wp2)
                          go_roundg k2
                          case measure => have := HK1.out; have := HK2.out; omega
                          case rel => exact ⟨(wrap64 (x4_1 + ((rd_L1 l0 x5_1).length : Int))), (wrap64 (x5_1 + 1)), (by first | rfl | (simp; done) | (simp [*]; done) | (simp; exact (by intro a b; cases a <;> cases b <;> rfl : ∀ a b : Bool, (a == b) = (!(a != b))) _ _)), (by first | rfl | (simp; done) | (simp [*]; done) | (simp; exact (by intro a b; cases a <;> cases b <;> rfl : ∀ a b : Bool, (a == b) = (!(a != b))) _ _)), H', ⟨by have := HK1.out; have := HK2.out; omega⟩, ⟨by repeat (first | (with_reducible first | exact HB.out | apply below_alloc | apply pw_below_drewN | apply below_drew1) | exact HB.out)⟩⟩
                      · rw [if_neg c11] at H
                        exact absurd H (by simp)
                    · rw [if_neg c10] at H
                      exact absurd H (by simp)
            · rw [if_neg c8] at H
              exact absurd H (by simp)
          · rw [if_neg c7] at H
            have c7b0 : decide (x5_1 < (l0.length : Int)) = false := decide_eq_false c7
            clear c7
            replace H := Option.bind_eq_some_iff.mp H
            obtain ⟨t118, A150, H⟩ := H
            replace H : ((lines_Split.f t118).bind fun t121 => (if (t121.length : Int) = (l0.length : Int) then ((lines_Bare.f k1 t118).bind fun t124 => (if t124 = x4_1 then (if (t118.length : Int) = (wrap64 (x4_1 + (l0.length : Int))) then ((lines_Count.f k1 t118).bind fun t125 => (seinelaw02_LinesJoin.j2 k1 l0 t121 (t125 != (l0.length : Int)))) else (seinelaw02_LinesJoin.j2 k1 l0 t121 true)) else (seinelaw02_LinesJoin.j2 k1 l0 t121 true))) else (seinelaw02_LinesJoin.j2 k1 l0 t121 true))) = some r := H
            have A15 := Aside0.mk A150
            clear A150
            replace H := Option.bind_eq_some_iff.mp H
            obtain ⟨t121, A160, H⟩ := H
            replace H : (if (t121.length : Int) = (l0.length : Int) then ((lines_Bare.f k1 t118).bind fun t124 => (if t124 = x4_1 then (if (t118.length : Int) = (wrap64 (x4_1 + (l0.length : Int))) then ((lines_Count.f k1 t118).bind fun t125 => (seinelaw02_LinesJoin.j2 k1 l0 t121 (t125 != (l0.length : Int)))) else (seinelaw02_LinesJoin.j2 k1 l0 t121 true)) else (seinelaw02_LinesJoin.j2 k1 l0 t121 true))) else (seinelaw02_LinesJoin.j2 k1 l0 t121 true)) = some r := H
            have A16 := Aside0.mk A160
            clear A160
            have HC17 := Aside0.mk H
            clear H
            go_upto_region 20 with (first | (go_at_call 17; (with_reducible refine (lines_Join.calls k1 _ _ l0 t118 _ ?side1 ?side2 A15.out).mono ?_); (case side1 => repeat (first | exact (Kd.C_below HR0.out HB.out) | (with_reducible refine Kd.C_alloc ?_ _) | (with_reducible refine Kd.C_drewN ?_ _) | (with_reducible refine Kd.C_drew ?_))); (case side2 => exact HC0.out); rintro e w18 ⟨v119, rfl, ho0, hb⟩; have n0_ := Aside0.mk (Kd.R_lower ho0 (below_size (by repeat (first | (with_reducible first | exact HB.out | apply below_alloc | apply pw_below_drewN | apply below_drew1) | exact HB.out)))); have n1_ := Aside0.mk (below_step (by repeat (first | (with_reducible first | exact HB.out | apply below_alloc | apply pw_below_drewN | apply below_drew1) | exact HB.out)) hb); clear HB; have HO120 := n0_; have HB := n1_; clear n0_ n1_; (try clear hb); (try clear hb2); (try clear hk); (try clear hi); (try clear ho0); obtain ⟨Ao19, co19, eo19⟩ := Kd.R_slice HO120.out; subst eo19) | (go_at_call 10; (with_reducible refine (lines_Split.calls _ _ t118 t121 _ ?side1 ?side2 A16.out).mono ?_); (case side1 => repeat (first | exact (Kd.R_reads' HO120.out).2.2 | (with_reducible refine Kd.C_alloc ?_ _) | (with_reducible refine Kd.C_drewN ?_ _) | (with_reducible refine Kd.C_drew ?_))); (case side2 => exact (Kd.R_reads' HO120.out).2.1); rintro e w20 ⟨v122, rfl, ho0, hb⟩; have n0_ := Aside0.mk (Kd.R_below (by (with_reducible repeat (first | apply Kd.R_alloc | apply Kd.R_drewN | apply Kd.R_drew)); exact HO120.out) hb); have n1_ := Aside0.mk (Kd.S_lower (Kd.S_new' ho0 (Kd.R_lt (by (with_reducible repeat (first | apply Kd.R_alloc | apply Kd.R_drewN | apply Kd.R_drew)); exact HO120.out))) (below_size (by repeat (first | (with_reducible first | exact HB.out | apply below_alloc | apply pw_below_drewN | apply below_drew1) | exact HB.out)))); have n2_ := Aside0.mk (below_step (by repeat (first | (with_reducible first | exact HB.out | apply below_alloc | apply pw_below_drewN | apply below_drew1) | exact HB.out)) hb); clear HO120; clear HB; have HO120 := n0_; have HO123 := n1_; have HB := n2_; clear n0_ n1_ n2_; (try clear hb); (try clear hb2); (try clear hk); (try clear hi); (try clear ho0)))
            repeat (go_quiet (first | (go_at_call 17; (with_reducible refine (lines_Join.calls k1 _ _ l0 t118 _ ?side1 ?side2 A15.out).mono ?_); (case side1 => repeat (first | exact (Kd.C_below HR0.out HB.out) | (with_reducible refine Kd.C_alloc ?_ _) | (with_reducible refine Kd.C_drewN ?_ _) | (with_reducible refine Kd.C_drew ?_))); (case side2 => exact HC0.out); rintro e w18 ⟨v119, rfl, ho0, hb⟩; have n0_ := Aside0.mk (Kd.R_lower ho0 (below_size (by repeat (first | (with_reducible first | exact HB.out | apply below_alloc | apply pw_below_drewN | apply below_drew1) | exact HB.out)))); have n1_ := Aside0.mk (below_step (by repeat (first | (with_reducible first | exact HB.out | apply below_alloc | apply pw_below_drewN | apply below_drew1) | exact HB.out)) hb); clear HB; have HO120 := n0_; have HB := n1_; clear n0_ n1_; (try clear hb); (try clear hb2); (try clear hk); (try clear hi); (try clear ho0); obtain ⟨Ao19, co19, eo19⟩ := Kd.R_slice HO120.out; subst eo19) | (go_at_call 10; (with_reducible refine (lines_Split.calls _ _ t118 t121 _ ?side1 ?side2 A16.out).mono ?_); (case side1 => repeat (first | exact (Kd.R_reads' HO120.out).2.2 | (with_reducible refine Kd.C_alloc ?_ _) | (with_reducible refine Kd.C_drewN ?_ _) | (with_reducible refine Kd.C_drew ?_))); (case side2 => exact (Kd.R_reads' HO120.out).2.1); rintro e w20 ⟨v122, rfl, ho0, hb⟩; have n0_ := Aside0.mk (Kd.R_below (by (with_reducible repeat (first | apply Kd.R_alloc | apply Kd.R_drewN | apply Kd.R_drew)); exact HO120.out) hb); have n1_ := Aside0.mk (Kd.S_lower (Kd.S_new' ho0 (Kd.R_lt (by (with_reducible repeat (first | apply Kd.R_alloc | apply Kd.R_drewN | apply Kd.R_drew)); exact HO120.out))) (below_size (by repeat (first | (with_reducible first | exact HB.out | apply below_alloc | apply pw_below_drewN | apply below_drew1) | exact HB.out)))); have n2_ := Aside0.mk (below_step (by repeat (first | (with_reducible first | exact HB.out | apply below_alloc | apply pw_below_drewN | apply below_drew1) | exact HB.out)) hb); clear HO120; clear HB; have HO120 := n0_; have HO123 := n1_; have HB := n2_; clear n0_ n1_ n2_; (try clear hb); (try clear hb2); (try clear hk); (try clear hi); (try clear ho0))); go_upto_region 20 with (first | (go_at_call 17; (with_reducible refine (lines_Join.calls k1 _ _ l0 t118 _ ?side1 ?side2 A15.out).mono ?_); (case side1 => repeat (first | exact (Kd.C_below HR0.out HB.out) | (with_reducible refine Kd.C_alloc ?_ _) | (with_reducible refine Kd.C_drewN ?_ _) | (with_reducible refine Kd.C_drew ?_))); (case side2 => exact HC0.out); rintro e w18 ⟨v119, rfl, ho0, hb⟩; have n0_ := Aside0.mk (Kd.R_lower ho0 (below_size (by repeat (first | (with_reducible first | exact HB.out | apply below_alloc | apply pw_below_drewN | apply below_drew1) | exact HB.out)))); have n1_ := Aside0.mk (below_step (by repeat (first | (with_reducible first | exact HB.out | apply below_alloc | apply pw_below_drewN | apply below_drew1) | exact HB.out)) hb); clear HB; have HO120 := n0_; have HB := n1_; clear n0_ n1_; (try clear hb); (try clear hb2); (try clear hk); (try clear hi); (try clear ho0); obtain ⟨Ao19, co19, eo19⟩ := Kd.R_slice HO120.out; subst eo19) | (go_at_call 10; (with_reducible refine (lines_Split.calls _ _ t118 t121 _ ?side1 ?side2 A16.out).mono ?_); (case side1 => repeat (first | exact (Kd.R_reads' HO120.out).2.2 | (with_reducible refine Kd.C_alloc ?_ _) | (with_reducible refine Kd.C_drewN ?_ _) | (with_reducible refine Kd.C_drew ?_))); (case side2 => exact (Kd.R_reads' HO120.out).2.1); rintro e w20 ⟨v122, rfl, ho0, hb⟩; have n0_ := Aside0.mk (Kd.R_below (by (with_reducible repeat (first | apply Kd.R_alloc | apply Kd.R_drewN | apply Kd.R_drew)); exact HO120.out) hb); have n1_ := Aside0.mk (Kd.S_lower (Kd.S_new' ho0 (Kd.R_lt (by (with_reducible repeat (first | apply Kd.R_alloc | apply Kd.R_drewN | apply Kd.R_drew)); exact HO120.out))) (below_size (by repeat (first | (with_reducible first | exact HB.out | apply below_alloc | apply pw_below_drewN | apply below_drew1) | exact HB.out)))); have n2_ := Aside0.mk (below_step (by repeat (first | (with_reducible first | exact HB.out | apply below_alloc | apply pw_below_drewN | apply below_drew1) | exact HB.out)) hb); clear HO120; clear HB; have HO120 := n0_; have HO123 := n1_; have HB := n2_; clear n0_ n1_ n2_; (try clear hb); (try clear hb2); (try clear hk); (try clear hi); (try clear ho0))))
            (try simp only [Act.put, List.setIfInBounds_toArray, List.set_cons_zero, List.set_cons_succ])
            go_cut [82] (fun v82 wc => ∃ (kq : Nat) (x82_16 : Bool), v82 = .bool x82_16 ∧ Aside0 (seinelaw02_LinesJoin.j2 kq l0 t121 x82_16 = some r) ∧ Aside0 (kq ≤ k1) ∧ Aside0 (Kd.S k31 31 wc w.heap.size (fun _ => True) v122 t121) ∧ Aside0 (Below w.heap.size w wc))
            case first =>
              have H := HC17.out
              clear HC17
              by_cases c21 : (t121.length : Int) = (l0.length : Int)
              · rw [if_pos c21] at H
                have c21b0 : ((t121.length : Int) == (l0.length : Int)) = true := beq_iff_eq.mpr c21
                have c21b1 : ((t121.length : Int) != (l0.length : Int)) = false := bne_eq_false_iff_eq.mpr c21
                have c21b2 : (t121.length == l0.length) = true := by first | simpa using c21 | (simp at c21 ⊢; omega)
                clear c21
                (first | rw [c21b0] | (simp only [i64_w, i32_w]; rw [c21b0]) | skip)
                replace H := Option.bind_eq_some_iff.mp H
                obtain ⟨t124, A220, H⟩ := H
                replace H : (if t124 = x4_1 then (if (t118.length : Int) = (wrap64 (x4_1 + (l0.length : Int))) then ((lines_Count.f k1 t118).bind fun t125 => (seinelaw02_LinesJoin.j2 k1 l0 t121 (t125 != (l0.length : Int)))) else (seinelaw02_LinesJoin.j2 k1 l0 t121 true)) else (seinelaw02_LinesJoin.j2 k1 l0 t121 true)) = some r := H
                have A22 := Aside0.mk A220
                clear A220
                by_cases c23 : t124 = x4_1
                · rw [if_pos c23] at H
                  have c23b0 : (t124 == x4_1) = true := beq_iff_eq.mpr c23
                  have c23b1 : (t124 != x4_1) = false := bne_eq_false_iff_eq.mpr c23
                  clear c23
                  by_cases c24 : (t118.length : Int) = (wrap64 (x4_1 + (l0.length : Int)))
                  · rw [if_pos c24] at H
                    have c24b0 : ((t118.length : Int) == (wrap64 (x4_1 + (l0.length : Int)))) = true := beq_iff_eq.mpr c24
                    have c24b1 : ((t118.length : Int) != (wrap64 (x4_1 + (l0.length : Int)))) = false := bne_eq_false_iff_eq.mpr c24
                    clear c24
                    replace H := Option.bind_eq_some_iff.mp H
                    obtain ⟨t125, A250, H⟩ := H
                    replace H : (seinelaw02_LinesJoin.j2 k1 l0 t121 (t125 != (l0.length : Int))) = some r := H
                    have A25 := Aside0.mk A250
                    clear A250
                    have H' := Aside0.mk H
                    clear H
                    obtain ⟨Ao26, co26, eo26⟩ := Kd.S_slice HO123.out
                    subst eo26
                    go_wp2_with (first | (go_at_call 13; (with_reducible refine (lines_Bare.calls k1 _ _ t118 t124 _ ?side1 ?side2 A22.out).mono ?_); (case side1 => repeat (first | exact (Kd.R_reads' HO120.out).2.2 | (with_reducible refine Kd.C_alloc ?_ _) | (with_reducible refine Kd.C_drewN ?_ _) | (with_reducible refine Kd.C_drew ?_))); (case side2 => exact (Kd.R_reads' HO120.out).2.1); rintro e w' ⟨rfl, ⟨nd, rfl⟩⟩; (try first | exact ⟨rfl, _, World.drewN_drewN _ _ _⟩ | exact ⟨rfl, _, Eq.trans (World.drewN_drewN _ _ _) (congrArg (World.drewN _) (Nat.add_assoc _ _ _))⟩)) | (go_at_call 12; (with_reducible refine (lines_Count.calls k1 _ _ t118 t125 _ ?side1 ?side2 A25.out).mono ?_); (case side1 => repeat (first | exact (Kd.R_reads' HO120.out).2.2 | (with_reducible refine Kd.C_alloc ?_ _) | (with_reducible refine Kd.C_drewN ?_ _) | (with_reducible refine Kd.C_drew ?_))); (case side2 => exact (Kd.R_reads' HO120.out).2.1); rintro e w' ⟨rfl, ⟨nd, rfl⟩⟩; (try first | exact ⟨rfl, _, World.drewN_drewN _ _ _⟩ | exact ⟨rfl, _, Eq.trans (World.drewN_drewN _ _ _) (congrArg (World.drewN _) (Nat.add_assoc _ _ _))⟩)))
                    repeat (go_quiet (first | (go_at_call 13; (with_reducible refine (lines_Bare.calls k1 _ _ t118 t124 _ ?side1 ?side2 A22.out).mono ?_); (case side1 => repeat (first | exact (Kd.R_reads' HO120.out).2.2 | (with_reducible refine Kd.C_alloc ?_ _) | (with_reducible refine Kd.C_drewN ?_ _) | (with_reducible refine Kd.C_drew ?_))); (case side2 => exact (Kd.R_reads' HO120.out).2.1); rintro e w' ⟨rfl, ⟨nd, rfl⟩⟩; (try first | exact ⟨rfl, _, World.drewN_drewN _ _ _⟩ | exact ⟨rfl, _, Eq.trans (World.drewN_drewN _ _ _) (congrArg (World.drewN _) (Nat.add_assoc _ _ _))⟩)) | (go_at_call 12; (with_reducible refine (lines_Count.calls k1 _ _ t118 t125 _ ?side1 ?side2 A25.out).mono ?_); (case side1 => repeat (first | exact (Kd.R_reads' HO120.out).2.2 | (with_reducible refine Kd.C_alloc ?_ _) | (with_reducible refine Kd.C_drewN ?_ _) | (with_reducible refine Kd.C_drew ?_))); (case side2 => exact (Kd.R_reads' HO120.out).2.1); rintro e w' ⟨rfl, ⟨nd, rfl⟩⟩; (try first | exact ⟨rfl, _, World.drewN_drewN _ _ _⟩ | exact ⟨rfl, _, Eq.trans (World.drewN_drewN _ _ _) (congrArg (World.drewN _) (Nat.add_assoc _ _ _))⟩))); try go_wp2_with (first | (go_at_call 13; (with_reducible refine (lines_Bare.calls k1 _ _ t118 t124 _ ?side1 ?side2 A22.out).mono ?_); (case side1 => repeat (first | exact (Kd.R_reads' HO120.out).2.2 | (with_reducible refine Kd.C_alloc ?_ _) | (with_reducible refine Kd.C_drewN ?_ _) | (with_reducible refine Kd.C_drew ?_))); (case side2 => exact (Kd.R_reads' HO120.out).2.1); rintro e w' ⟨rfl, ⟨nd, rfl⟩⟩; (try first | exact ⟨rfl, _, World.drewN_drewN _ _ _⟩ | exact ⟨rfl, _, Eq.trans (World.drewN_drewN _ _ _) (congrArg (World.drewN _) (Nat.add_assoc _ _ _))⟩)) | (go_at_call 12; (with_reducible refine (lines_Count.calls k1 _ _ t118 t125 _ ?side1 ?side2 A25.out).mono ?_); (case side1 => repeat (first | exact (Kd.R_reads' HO120.out).2.2 | (with_reducible refine Kd.C_alloc ?_ _) | (with_reducible refine Kd.C_drewN ?_ _) | (with_reducible refine Kd.C_drew ?_))); (case side2 => exact (Kd.R_reads' HO120.out).2.1); rintro e w' ⟨rfl, ⟨nd, rfl⟩⟩; (try first | exact ⟨rfl, _, World.drewN_drewN _ _ _⟩ | exact ⟨rfl, _, Eq.trans (World.drewN_drewN _ _ _) (congrArg (World.drewN _) (Nat.add_assoc _ _ _))⟩))))
                    go_meet
                    case rel => exact ⟨_, ((t125 != (l0.length : Int))), (by first | rfl | (simp; done) | (simp [*]; done) | (simp; exact (by intro a b; cases a <;> cases b <;> rfl : ∀ a b : Bool, (a == b) = (!(a != b))) _ _)), H', ⟨by have := HK1.out; first | omega | exact Nat.le_refl _⟩, ⟨by (with_reducible repeat (first | apply Kd.S_alloc | apply Kd.S_drewN | apply Kd.S_drew)); exact Kd.S_mono HO123.out (fun _ hk => trivial)⟩, ⟨by repeat (first | (with_reducible first | exact HB.out | apply below_alloc | apply pw_below_drewN | apply below_drew1) | exact HB.out)⟩⟩
                  · rw [if_neg c24] at H
                    have c24b0 : ((t118.length : Int) == (wrap64 (x4_1 + (l0.length : Int)))) = false := beq_eq_false_iff_ne.mpr c24
                    have c24b1 : ((t118.length : Int) != (wrap64 (x4_1 + (l0.length : Int)))) = true := bne_iff_ne.mpr c24
                    have H' := Aside0.mk H
                    clear H
                    obtain ⟨Ao27, co27, eo27⟩ := Kd.S_slice HO123.out
                    subst eo27
                    go_wp2_with (first | (go_at_call 13; (with_reducible refine (lines_Bare.calls k1 _ _ t118 t124 _ ?side1 ?side2 A22.out).mono ?_); (case side1 => repeat (first | exact (Kd.R_reads' HO120.out).2.2 | (with_reducible refine Kd.C_alloc ?_ _) | (with_reducible refine Kd.C_drewN ?_ _) | (with_reducible refine Kd.C_drew ?_))); (case side2 => exact (Kd.R_reads' HO120.out).2.1); rintro e w' ⟨rfl, ⟨nd, rfl⟩⟩; (try first | exact ⟨rfl, _, World.drewN_drewN _ _ _⟩ | exact ⟨rfl, _, Eq.trans (World.drewN_drewN _ _ _) (congrArg (World.drewN _) (Nat.add_assoc _ _ _))⟩)))
                    repeat (go_quiet (first | (go_at_call 13; (with_reducible refine (lines_Bare.calls k1 _ _ t118 t124 _ ?side1 ?side2 A22.out).mono ?_); (case side1 => repeat (first | exact (Kd.R_reads' HO120.out).2.2 | (with_reducible refine Kd.C_alloc ?_ _) | (with_reducible refine Kd.C_drewN ?_ _) | (with_reducible refine Kd.C_drew ?_))); (case side2 => exact (Kd.R_reads' HO120.out).2.1); rintro e w' ⟨rfl, ⟨nd, rfl⟩⟩; (try first | exact ⟨rfl, _, World.drewN_drewN _ _ _⟩ | exact ⟨rfl, _, Eq.trans (World.drewN_drewN _ _ _) (congrArg (World.drewN _) (Nat.add_assoc _ _ _))⟩))); try go_wp2_with (first | (go_at_call 13; (with_reducible refine (lines_Bare.calls k1 _ _ t118 t124 _ ?side1 ?side2 A22.out).mono ?_); (case side1 => repeat (first | exact (Kd.R_reads' HO120.out).2.2 | (with_reducible refine Kd.C_alloc ?_ _) | (with_reducible refine Kd.C_drewN ?_ _) | (with_reducible refine Kd.C_drew ?_))); (case side2 => exact (Kd.R_reads' HO120.out).2.1); rintro e w' ⟨rfl, ⟨nd, rfl⟩⟩; (try first | exact ⟨rfl, _, World.drewN_drewN _ _ _⟩ | exact ⟨rfl, _, Eq.trans (World.drewN_drewN _ _ _) (congrArg (World.drewN _) (Nat.add_assoc _ _ _))⟩))))
                    go_meet
                    case rel => exact ⟨_, (true), (by first | rfl | (simp; done) | (simp [*]; done) | (simp; exact (by intro a b; cases a <;> cases b <;> rfl : ∀ a b : Bool, (a == b) = (!(a != b))) _ _)), H', ⟨by have := HK1.out; first | omega | exact Nat.le_refl _⟩, ⟨by (with_reducible repeat (first | apply Kd.S_alloc | apply Kd.S_drewN | apply Kd.S_drew)); exact Kd.S_mono HO123.out (fun _ hk => trivial)⟩, ⟨by repeat (first | (with_reducible first | exact HB.out | apply below_alloc | apply pw_below_drewN | apply below_drew1) | exact HB.out)⟩⟩
                · rw [if_neg c23] at H
                  have c23b0 : (t124 == x4_1) = false := beq_eq_false_iff_ne.mpr c23
                  have c23b1 : (t124 != x4_1) = true := bne_iff_ne.mpr c23
                  have H' := Aside0.mk H
                  clear H
                  obtain ⟨Ao28, co28, eo28⟩ := Kd.S_slice HO123.out
                  subst eo28
                  go_wp2_with (first | (go_at_call 13; (with_reducible refine (lines_Bare.calls k1 _ _ t118 t124 _ ?side1 ?side2 A22.out).mono ?_); (case side1 => repeat (first | exact (Kd.R_reads' HO120.out).2.2 | (with_reducible refine Kd.C_alloc ?_ _) | (with_reducible refine Kd.C_drewN ?_ _) | (with_reducible refine Kd.C_drew ?_))); (case side2 => exact (Kd.R_reads' HO120.out).2.1); rintro e w' ⟨rfl, ⟨nd, rfl⟩⟩; (try first | exact ⟨rfl, _, World.drewN_drewN _ _ _⟩ | exact ⟨rfl, _, Eq.trans (World.drewN_drewN _ _ _) (congrArg (World.drewN _) (Nat.add_assoc _ _ _))⟩)))
                  repeat (go_quiet (first | (go_at_call 13; (with_reducible refine (lines_Bare.calls k1 _ _ t118 t124 _ ?side1 ?side2 A22.out).mono ?_); (case side1 => repeat (first | exact (Kd.R_reads' HO120.out).2.2 | (with_reducible refine Kd.C_alloc ?_ _) | (with_reducible refine Kd.C_drewN ?_ _) | (with_reducible refine Kd.C_drew ?_))); (case side2 => exact (Kd.R_reads' HO120.out).2.1); rintro e w' ⟨rfl, ⟨nd, rfl⟩⟩; (try first | exact ⟨rfl, _, World.drewN_drewN _ _ _⟩ | exact ⟨rfl, _, Eq.trans (World.drewN_drewN _ _ _) (congrArg (World.drewN _) (Nat.add_assoc _ _ _))⟩))); try go_wp2_with (first | (go_at_call 13; (with_reducible refine (lines_Bare.calls k1 _ _ t118 t124 _ ?side1 ?side2 A22.out).mono ?_); (case side1 => repeat (first | exact (Kd.R_reads' HO120.out).2.2 | (with_reducible refine Kd.C_alloc ?_ _) | (with_reducible refine Kd.C_drewN ?_ _) | (with_reducible refine Kd.C_drew ?_))); (case side2 => exact (Kd.R_reads' HO120.out).2.1); rintro e w' ⟨rfl, ⟨nd, rfl⟩⟩; (try first | exact ⟨rfl, _, World.drewN_drewN _ _ _⟩ | exact ⟨rfl, _, Eq.trans (World.drewN_drewN _ _ _) (congrArg (World.drewN _) (Nat.add_assoc _ _ _))⟩))))
                  go_meet
                  case rel => exact ⟨_, (true), (by first | rfl | (simp; done) | (simp [*]; done) | (simp; exact (by intro a b; cases a <;> cases b <;> rfl : ∀ a b : Bool, (a == b) = (!(a != b))) _ _)), H', ⟨by have := HK1.out; first | omega | exact Nat.le_refl _⟩, ⟨by (with_reducible repeat (first | apply Kd.S_alloc | apply Kd.S_drewN | apply Kd.S_drew)); exact Kd.S_mono HO123.out (fun _ hk => trivial)⟩, ⟨by repeat (first | (with_reducible first | exact HB.out | apply below_alloc | apply pw_below_drewN | apply below_drew1) | exact HB.out)⟩⟩
              · rw [if_neg c21] at H
                have c21b0 : ((t121.length : Int) == (l0.length : Int)) = false := beq_eq_false_iff_ne.mpr c21
                have c21b1 : ((t121.length : Int) != (l0.length : Int)) = true := bne_iff_ne.mpr c21
                have c21b2 : (t121.length == l0.length) = false := by first | simpa using c21 | (simp at c21 ⊢; omega)
                (first | rw [c21b0] | (simp only [i64_w, i32_w]; rw [c21b0]) | skip)
                have H' := Aside0.mk H
                clear H
                obtain ⟨Ao29, co29, eo29⟩ := Kd.S_slice HO123.out
                subst eo29
                go_wp2
                repeat (go_quiet (fail); try go_wp2)
                go_meet
                case rel => exact ⟨_, (true), (by first | rfl | (simp; done) | (simp [*]; done) | (simp; exact (by intro a b; cases a <;> cases b <;> rfl : ∀ a b : Bool, (a == b) = (!(a != b))) _ _)), H', ⟨by have := HK1.out; first | omega | exact Nat.le_refl _⟩, ⟨by (with_reducible repeat (first | apply Kd.S_alloc | apply Kd.S_drewN | apply Kd.S_drew)); exact Kd.S_mono HO123.out (fun _ hk => trivial)⟩, ⟨by repeat (first | (with_reducible first | exact HB.out | apply below_alloc | apply pw_below_drewN | apply below_drew1) | exact HB.out)⟩⟩
            case rest =>
              clear HC17
              try clear c1
              try clear p1
              try clear q1
              try clear hx1
              try clear c2
              try clear p2
              try clear c3
              try clear c4
              try clear c4b0
              try clear c4b1
              try clear c6
              try clear p6
              try clear c7
              try clear c7b0
              try clear c8
              try clear c8b0
              try clear c9
              try clear c9b0
              try clear c9b1
              try clear c10
              try clear c10b0
              try clear c11
              try clear c11b0
              try clear p11
              try clear q11
              try clear hx11
              try clear c12
              try clear c12b0
              try clear c13
              try clear c13b0
              try clear c14
              try clear c14b0
              try clear c14b1
              try clear c21
              try clear c21b0
              try clear c21b1
              try clear c21b2
              try clear c23
              try clear c23b0
              try clear c23b1
              try clear c24
              try clear c24b0
              try clear c24b1
              try clear hx113_0
              try clear hx114_0
              try clear hx115_0
              try clear hx116_0
              try clear hx117_0
              try clear p1
              try clear p113
              try clear p114
              try clear p115
              try clear p116
              try clear p117
              try clear p2
              try clear q1
              try clear q113
              try clear q114
              try clear q115
              try clear q116
              try clear q117
              obtain ⟨kq, x82_16, rfl, HA, HJ16, HO_8, HB⟩ := hcut
              cases kq with
              | zero => exact absurd HA.out (by simp [seinelaw02_LinesJoin.j2])
              | succ kj16 =>
                have H := HA.out
                clear HA
                simp only [seinelaw02_LinesJoin.j2] at H
                by_cases c30 : x82_16 = true
                · subst c30
                  have H1 : (none) = some r := by rw [if_pos rfl] at H; exact H
                  clear H
                  have H := H1
                  clear H1
                  exact absurd H (by simp)
                · replace c30 := Bool.eq_false_iff.mpr c30
                  subst c30
                  have H1 : (seinelaw02_LinesJoin.l2 kj16 l0 t121 0) = some r := by rw [if_neg (show ¬ (false = true) by decide)] at H; exact H
                  clear H
                  have H := H1
                  clear H1
                  have H' := Aside0.mk H
                  clear H
                  go_wp2
                  repeat (go_quiet (fail); try go_wp2)
                  go_loopg [9] kj16 (fun kq v9 w' => ∃ (x9_3 : Int), v9 = .int .i64 x9_3 ∧ Aside0 (seinelaw02_LinesJoin.l2 kq l0 t121 x9_3 = some r) ∧ Aside0 (kq ≤ kj16) ∧ Aside0 (Kd.S k31 31 w' w.heap.size (fun _ => True) v122 t121) ∧ Aside0 (Below w.heap.size w w'))
                  case atStart => exact ⟨(0), (by first | rfl | (simp; done) | (simp [*]; done) | (simp; exact (by intro a b; cases a <;> cases b <;> rfl : ∀ a b : Bool, (a == b) = (!(a != b))) _ _)), H', ⟨Nat.le_refl _⟩, ⟨by (with_reducible repeat (first | apply Kd.S_alloc | apply Kd.S_drewN | apply Kd.S_drew)); exact HO_8.out⟩, ⟨by repeat (first | (with_reducible first | exact HB.out | apply below_alloc | apply pw_below_drewN | apply below_drew1) | exact HB.out)⟩⟩
                  case round =>
                    clear H'
                    try clear c1
                    try clear p1
                    try clear q1
                    try clear hx1
                    try clear c2
                    try clear p2
                    try clear c3
                    try clear c4
                    try clear c4b0
                    try clear c4b1
                    try clear c6
                    try clear p6
                    try clear c7
                    try clear c7b0
                    try clear c8
                    try clear c8b0
                    try clear c9
                    try clear c9b0
                    try clear c9b1
                    try clear c10
                    try clear c10b0
                    try clear c11
                    try clear c11b0
                    try clear p11
                    try clear q11
                    try clear hx11
                    try clear c12
                    try clear c12b0
                    try clear c13
                    try clear c13b0
                    try clear c14
                    try clear c14b0
                    try clear c14b1
                    try clear c21
                    try clear c21b0
                    try clear c21b1
                    try clear c21b2
                    try clear c23
                    try clear c23b0
                    try clear c23b1
                    try clear c24
                    try clear c24b0
                    try clear c24b1
                    try clear c30
                    try clear hx113_0
                    try clear hx114_0
                    try clear hx115_0
                    try clear hx116_0
                    try clear hx117_0
                    try clear p1
                    try clear p11
                    try clear p113
                    try clear p114
                    try clear p115
                    try clear p116
                    try clear p117
                    try clear p2
                    try clear p6
                    try clear q1
                    try clear q11
                    try clear q113
                    try clear q114
                    try clear q115
                    try clear q116
                    try clear q117
                    obtain ⟨x9_3, rfl, HA, HK3, HO_8, HB⟩ := hrel
                    cases gk with
                    | zero => exact absurd HA.out (by simp [seinelaw02_LinesJoin.l2])
                    | succ k3 =>
                      have H := HA.out
                      clear HA
                      simp only [seinelaw02_LinesJoin.l2] at H
                      by_cases c31 : x9_3 < (l0.length : Int)
                      · rw [if_pos c31] at H
                        have c31b0 : decide (x9_3 < (l0.length : Int)) = true := decide_eq_true c31
                        clear c31
                        by_cases c32 : 0 ≤ x9_3
                        · rw [if_pos c32] at H
                          have c32b0 : decide (0 ≤ x9_3) = true := decide_eq_true c32
                          clear c32
                          by_cases c33 : x9_3 < (t121.length : Int)
                          · rw [if_pos c33] at H
                            have c33b0 : decide (x9_3 < (t121.length : Int)) = true := decide_eq_true c33
                            clear c33
                            by_cases c34 : (strOfNums ((rd_T31 t121 x9_3).f1)).toList = (strOfNums (rd_L1 l0 x9_3)).toList
                            · rw [if_pos c34] at H
                              have c34b0 : ((strOfNums ((rd_T31 t121 x9_3).f1)).toList == (strOfNums (rd_L1 l0 x9_3)).toList) = true := beq_iff_eq.mpr c34
                              have c34b1 : ((strOfNums ((rd_T31 t121 x9_3).f1)).toList != (strOfNums (rd_L1 l0 x9_3)).toList) = false := bne_eq_false_iff_eq.mpr c34
                              clear c34
                              obtain ⟨bq35, hbq35⟩ : ∃ b_ : Bool, b_ = ((rd_T31 t121 x9_3).f2) := ⟨_, rfl⟩
                              replace H : (if (bq35 = true) then (seinelaw02_LinesJoin.l2 k3 l0 t121 (wrap64 (x9_3 + 1))) else (none)) = some r := by rw [← hbq35] at H; exact H
                              have Nbq35 := Aside0.mk hbq35
                              clear hbq35
                              by_cases c36 : (bq35 = true)
                              · subst c36
                                have H1 : (seinelaw02_LinesJoin.l2 k3 l0 t121 (wrap64 (x9_3 + 1))) = some r := by rw [if_pos rfl] at H; exact H
                                clear H
                                have H := H1
                                clear H1
                                have H' := Aside0.mk H
                                clear H
                                obtain ⟨Ao37, co37, eo37⟩ := Kd.S_slice HO_8.out
                                subst eo37
                                have p126 : 0 ≤ (x9_3 : Int) := of_decide_eq_true (by first | (with_reducible assumption) | assumption)
                                have q126 : x9_3 < (t121.length : Int) := of_decide_eq_true (by first | (with_reducible assumption) | assumption)
                                obtain ⟨ad126, A126_1, c126_1, e126, hx126_0, hx126_1, hx126_2, hl126_1, hi126_1⟩ := at_T31 (Kd.S_reads' HO_8.out).2.2 x9_3 p126 q126
                                (try rw [← Nbq35.out] at hx126_2)
                                cases e126
                                obtain ⟨ce126, hce126, hMe126, hcc126⟩ := Kd.S_get HO_8.out z31 x9_3 p126 (by first | exact q126 | exact of_decide_eq_true (by first | (with_reducible assumption) | assumption) | (have e_ := (Kd.S_reads' HO_8.out).1; omega))
                                obtain ⟨ve126_1, rfl, ge126_1⟩ := k31_openM hMe126
                                have hv126_1 := hcc126 1 _ rfl
                                rw [add_field _ _ 1 (by omega)] at hv126_1
                                replace hv126_1 := Option.some.inj (hv126_1.symm.trans hx126_1)
                                rw [hv126_1] at ge126_1
                                have HL126_1 := Aside0.mk (show Kd.R (Kd.int .u8) 5 _ _ _ _ ((rd_T31 t121 x9_3).f1) from ge126_1)
                                clear hv126_1 ge126_1
                                clear hcc126 hce126
                                have HR126_1 := Aside0.mk hi126_1
                                have HC126_1 := Aside0.mk hl126_1
                                clear hi126_1 hl126_1
                                replace p126 := eq_true p126
                                replace q126 := eq_true q126
                                have hcv38 := Kd.C_string (P := Try.prog) (A := A126_1) (c := c126_1) Try.underlying22 Try.underlying5 Try.underlying9 (by repeat (first | (with_reducible exact HR126_1.out) | (with_reducible refine Kd.C_alloc ?_ _) | (with_reducible refine Kd.C_drewN ?_ _) | (with_reducible refine Kd.C_drew ?_) | exact HR126_1.out))
                                have hcvq38 := fun m => Kd.C_string (P := Try.prog) (A := A126_1) (c := c126_1) Try.underlying22 Try.underlying5 Try.underlying9 (Kd.C_drewN (by repeat (first | (with_reducible exact HR126_1.out) | (with_reducible refine Kd.C_alloc ?_ _) | (with_reducible refine Kd.C_drewN ?_ _) | (with_reducible refine Kd.C_drew ?_) | exact HR126_1.out)) m)
                                have p127 : 0 ≤ (x9_3 : Int) := of_decide_eq_true (by first | (with_reducible assumption) | assumption)
                                have q127 : x9_3 < (l0.length : Int) := of_decide_eq_true (by first | (with_reducible assumption) | assumption)
                                obtain ⟨ad127, A127_0, c127_0, e127, hx127_0, hl127_0, hi127_0⟩ := at_L1 HR0.out x9_3 p127 q127
                                cases e127
                                replace hx127_0 := (HB.out.cell (World.block_lt_of_cell? w _ hx127_0)).trans hx127_0
                                have HR127_0 := Aside0.mk hi127_0
                                have HC127_0 := Aside0.mk hl127_0
                                clear hi127_0 hl127_0
                                replace p127 := eq_true p127
                                replace q127 := eq_true q127
                                have hcv39 := Kd.C_string (P := Try.prog) (A := A127_0) (c := c127_0) Try.underlying22 Try.underlying5 Try.underlying9 (Kd.C_below HR127_0.out HB.out)
                                have hcvq39 := fun m => Kd.C_string (P := Try.prog) (A := A127_0) (c := c127_0) Try.underlying22 Try.underlying5 Try.underlying9 (Kd.C_drewN (Kd.C_below HR127_0.out HB.out) m)
                                have p128 : 0 ≤ (x9_3 : Int) := of_decide_eq_true (by first | (with_reducible assumption) | assumption)
                                have q128 : x9_3 < (t121.length : Int) := of_decide_eq_true (by first | (with_reducible assumption) | assumption)
                                obtain ⟨ad128, A128_1, c128_1, e128, hx128_0, hx128_1, hx128_2, hl128_1, hi128_1⟩ := at_T31 (Kd.S_reads' HO_8.out).2.2 x9_3 p128 q128
                                (try rw [← Nbq35.out] at hx128_2)
                                obtain rfl : ad126 = ad128 := (by injection e128)
                                obtain ⟨ce128, hce128, hMe128, hcc128⟩ := Kd.S_get HO_8.out z31 x9_3 p128 (by first | exact q128 | exact of_decide_eq_true (by first | (with_reducible assumption) | assumption) | (have e_ := (Kd.S_reads' HO_8.out).1; omega))
                                obtain ⟨ve128_1, rfl, ge128_1⟩ := k31_openM hMe128
                                have hv128_1 := hcc128 1 _ rfl
                                rw [add_field _ _ 1 (by omega)] at hv128_1
                                replace hv128_1 := Option.some.inj (hv128_1.symm.trans hx128_1)
                                rw [hv128_1] at ge128_1
                                have HL128_1 := Aside0.mk (show Kd.R (Kd.int .u8) 5 _ _ _ _ ((rd_T31 t121 x9_3).f1) from ge128_1)
                                clear hv128_1 ge128_1
                                clear hcc128 hce128
                                have HR128_1 := Aside0.mk hi128_1
                                have HC128_1 := Aside0.mk hl128_1
                                clear hi128_1 hl128_1
                                replace p128 := eq_true p128
                                replace q128 := eq_true q128
                                have ea_ := Option.some.inj (hx126_1.symm.trans hx128_1)
                                injection ea_ with ea_ en_ ec_
                                subst ea_
                                subst ec_
                                clear en_
                                go_wp2
                                repeat (go_quiet (fail); try go_wp2)
                                go_roundg k3
                                case measure => have := HK1.out; have := HJ16.out; have := HK3.out; omega
                                case rel => exact ⟨(wrap64 (x9_3 + 1)), (by first | rfl | (simp; done) | (simp [*]; done) | (simp; exact (by intro a b; cases a <;> cases b <;> rfl : ∀ a b : Bool, (a == b) = (!(a != b))) _ _)), H', ⟨by have := HK1.out; have := HJ16.out; have := HK3.out; omega⟩, ⟨by (with_reducible repeat (first | apply Kd.S_alloc | apply Kd.S_drewN | apply Kd.S_drew)); exact HO_8.out⟩, ⟨by repeat (first | (with_reducible first | exact HB.out | apply below_alloc | apply pw_below_drewN | apply below_drew1) | exact HB.out)⟩⟩
                              · replace c36 := Bool.eq_false_iff.mpr c36
                                subst c36
                                have H1 : (none) = some r := by rw [if_neg (show ¬ (false = true) by decide)] at H; exact H
                                clear H
                                have H := H1
                                clear H1
                                exact absurd H (by simp)
                            · rw [if_neg c34] at H
                              exact absurd H (by simp)
                          · rw [if_neg c33] at H
                            exact absurd H (by simp)
                        · rw [if_neg c32] at H
                          exact absurd H (by simp)
                      · rw [if_neg c31] at H
                        have c31b0 : decide (x9_3 < (l0.length : Int)) = false := decide_eq_false c31
                        clear c31
                        obtain rfl := Option.some.inj H
                        go_wp2
                        repeat (go_quiet (fail); try go_wp2)
                        go_ret
                        exact ⟨by first | rfl | (simp [errW_none, errW_some] <;> rfl) | (simp [*, errW_none, errW_some] <;> rfl), by repeat (first | (with_reducible first | exact HB.out | apply below_alloc | apply pw_below_drewN | apply below_drew1) | exact HB.out)⟩
  · replace c3 := Bool.eq_false_iff.mpr c3
    subst c3
    have H1 : (none) = some r := by rw [if_neg (show ¬ (false = true) by decide)] at H; exact H
    clear H
    have H := H1
    clear H1
    exact absurd H (by simp)

end Go.Proofs.Ytccpobbebfgpbaa.PLinesJoin
