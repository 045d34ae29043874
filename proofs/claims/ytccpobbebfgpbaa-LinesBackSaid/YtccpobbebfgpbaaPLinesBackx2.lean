/- Functions of the translation and what they come to: laid by a program of this session (xprint.py) beside contracts proved by hand. No condition. -/
import Derived.Test.YtccpobbebfgpbaaPLinesBackx0
import Derived.Test.YtccpobbebfgpbaaPLinesBackx1
namespace Go.Proofs.Ytccpobbebfgpbaa.PLinesBack
open Go.RowKit Go.Proofs.YtccpobbebfgpbaaW.PrintWords Go.Proofs.YtccpobbebfgpbaaW.PrintLast Go.Proofs.YtccpobbebfgpbaaW.PrintMore
attribute [local go_sem] max2_int min2_int max_two min_two max_three min_three max_four min_four   -- for this text's walks alone
set_option linter.unusedVariables false
set_option linter.unusedSimpArgs false

theorem const_reads (w : World) (xs : List Int) (e : TypeId) (fr : Nat × Nat) (hm : xs.length ≤ 9223372036854775807) :
    Kd.C (Kd.int .u8) (w.alloc (.cells (xs.map (Value.int .u8)).toArray e fr)) (some ⟨w.heap.size, 0, none⟩) xs.length xs := by
  refine Kd.C_of_reads (d := (0 : Int)) (h1 := fun _ => rfl) ⟨rfl, hm, fun _ => ⟨_, rfl, fun j hj => ?_⟩⟩
  rw [add_plain, World.cell?_alloc_mark]
  simp [List.getD_eq_getElem?_getD, List.getElem?_eq_getElem hj]
def wa0 : List Int := [97, 10, 10, 98]
def wa1 : List Int := [97, 10]
def wa2 : List Int := [97, 10, 98]
def wa3 : List Int := [97]
def wl0 : List S31 := [⟨0, [97], true⟩, ⟨2, [], true⟩, ⟨3, [98], false⟩]
set_option maxHeartbeats 8000000 in
set_option maxRecDepth 100000 in
theorem awake_calls (w : World) :
    Calls Try.prog 9 #[] w fun e w' => e = .returned (.bool true) ∧ Below w.heap.size w w' := by
  have hu31 := Try.underlying31
  have kc := fun (w : World) (C : Array Value) (n c : Nat) => Lib.run_convert_bytes_const (P := Try.prog) w 22 5 C n c Try.underlying22 Try.underlying5
  have kc1 := kc w #[.int .u8 97, .int .u8 10, .int .u8 10, .int .u8 98] 4 4
  have HS := Aside0.mk (lines_Split.calls (some ⟨w.heap.size, 0, none⟩) 4 wa0 wl0 (w.alloc (.cells (wa0.map (Value.int .u8)).toArray 5 (4, 5))) (const_reads w wa0 5 (4, 5) (by decide)) (by decide) (by unfold lines_Split.f; rw [if_pos (by decide)]; rfl))
  have HB0 := Aside0.mk (below_alloc (Below.refl w.heap.size w) (.cells (wa0.map (Value.int .u8)).toArray 5 (4, 5)))
  go_enter Try.func9, Try.ntmps9
  go_wp2_with fail
  refine HS.out.mono ?_
  rintro e w1 ⟨v1, rfl, hs1, hb1⟩
  have hr1 := Kd.S_R hs1
  clear hs1
  obtain ⟨g, cap, rfl, _⟩ := Kd.R_form hr1 (by decide)
  obtain ⟨_, _, hC1⟩ := Kd.R_reads' hr1
  obtain ⟨ad0, A0, c0, e0, p0, p1, p2, p3, p4⟩ := at_T31 hC1 0 (by decide) (by decide)
  obtain ⟨ad1, A1, c1, e1, q0, q1, q2, q3, q4⟩ := at_T31 hC1 1 (by decide) (by decide)
  obtain ⟨ad2, A2, c2, e2, r0, r1, r2, r3, r4⟩ := at_T31 hC1 2 (by decide) (by decide)
  cases e0
  cases e1
  cases e2
  have s0 := Kd.C_string (P := Try.prog) (A := A0) (c := c0) Try.underlying22 Try.underlying5 Try.underlying9 p4
  have d0 : rd_T31 wl0 0 = ⟨0, [97], true⟩ := rfl
  have d1 : rd_T31 wl0 1 = ⟨2, [], true⟩ := rfl
  have d2 : rd_T31 wl0 2 = ⟨3, [98], false⟩ := rfl
  rw [d0] at p0 p1 p2 p3 p4 s0
  rw [d1] at q0 q1 q2 q3 q4
  rw [d2] at r0 r1 r2 r3 r4
  simp [Addr.add] at p0 p1 p2 q0 q1 q2 r0 r1 r2
  have hss : strOfNums [97] = ⟨#[97]⟩ := by decide +kernel
  rw [hss] at s0
  have s0' : (convert 22 9 (.slice A0 1 c0)).run Try.prog w1 = .ok (.string ⟨#[97]⟩) w1 := s0
  clear s0
  have HB1 := Aside0.mk (below_step HB0.out hb1)
  clear hr1 hC1 hb1 p4 q4 r4 p3 q3 r3 kc1 HS HB0
  have kc2 := kc w1 #[.int .u8 97, .int .u8 10] 2 2
  go_wp2_with fail
  refine (lines_Count.calls 20 (some ⟨w1.heap.size, 0, none⟩) 2 wa1 1 (w1.alloc (.cells (wa1.map (Value.int .u8)).toArray 5 (2, 3))) (const_reads w1 wa1 5 (2, 3) (by decide)) (by decide) (by decide +kernel)).mono ?_
  rintro e w2 ⟨rfl, hd⟩
  have HB2 := Aside0.mk (below_step (below_alloc HB1.out (.cells (wa1.map (Value.int .u8)).toArray 5 (2, 3))) hd.below)
  clear hd kc2 s0' p0 p1 p2 q0 q1 q2 r0 r1 r2
  have kc3 := kc w2 #[.int .u8 97, .int .u8 10, .int .u8 98] 3 3
  go_wp2_with fail
  refine (lines_Bare.calls 20 (some ⟨w2.heap.size, 0, none⟩) 3 wa2 2 (w2.alloc (.cells (wa2.map (Value.int .u8)).toArray 5 (3, 4))) (const_reads w2 wa2 5 (3, 4) (by decide)) (by decide) (by decide +kernel)).mono ?_
  rintro e w3 ⟨rfl, hd⟩
  have HB3 := Aside0.mk (below_step (below_alloc HB2.out (.cells (wa2.map (Value.int .u8)).toArray 5 (3, 4))) hd.below)
  clear hd kc3
  have kc4 := kc w3 #[.int .u8 97] 1 1
  have hC4 := const_reads w3 wa3 5 (1, 2) (by decide)
  have hJ : Kd.C (Kd.slice 5 (Kd.int .u8)) ((w3.alloc (.cells (wa3.map (Value.int .u8)).toArray 5 (1, 2))).alloc (.cells #[.slice (some ⟨w3.heap.size, 0, none⟩) 1 1, .slice none 0 0] 22)) (some ⟨w3.heap.size + 1, 0, none⟩) 2 [wa3, []] := by
    refine ⟨rfl, by decide, fun _ => ⟨_, rfl, fun j p hj => ?_⟩⟩
    have hb := blk_new (w3.alloc (.cells (wa3.map (Value.int .u8)).toArray 5 (1, 2))) (.cells #[.slice (some ⟨w3.heap.size, 0, none⟩) 1 1, .slice none 0 0] 22)
    rw [World.size_alloc] at hb
    have h0 := (blk_cell hb 0)
    have h1 := (blk_cell hb 1)
    match j, hj with
    | 0, hj =>
      cases hj
      exact ⟨[.slice (some ⟨w3.heap.size, 0, none⟩) 1 1], rfl, ⟨_, _, rfl, by decide, Kd.C_alloc hC4 _⟩, fun i u hu => by
        match i, hu with
        | 0, hu => cases hu; exact h0⟩
    | 1, hj =>
      cases hj
      exact ⟨[.slice none 0 0], rfl, ⟨_, _, rfl, by decide, Kd.C_nil _ _⟩, fun i u hu => by
        match i, hu with
        | 0, hu => cases hu; exact h1⟩
  have HJ := Aside0.mk (lines_Join.calls 20 (some ⟨w3.heap.size + 1, 0, none⟩) 2 [wa3, []] [97, 10, 10] _ hJ (by decide) (by decide +kernel))
  have HBJ := Aside0.mk (below_alloc (below_alloc HB3.out (.cells (wa3.map (Value.int .u8)).toArray 5 (1, 2))) (.cells #[.slice (some ⟨w3.heap.size, 0, none⟩) 1 1, .slice none 0 0] 22))
  clear hJ hC4
  go_wp2_with fail
  refine HJ.out.mono ?_
  rintro e w4 ⟨v4, rfl, hr4, hb4⟩
  obtain ⟨A4, c4, rfl, hd4, hC4⟩ := Kd.R_reads hr4
  have hcv := Kd.C_string (P := Try.prog) (A := A4) (c := c4) Try.underlying22 Try.underlying5 Try.underlying9 hC4
  have hss : strOfNums [97, 10, 10] = ⟨#[97, 10, 10]⟩ := by decide +kernel
  rw [hss] at hcv
  have hcv' : (convert 22 9 (.slice A4 3 c4)).run Try.prog w4 = .ok (.string ⟨#[97, 10, 10]⟩) w4 := hcv
  have HB4 := Aside0.mk (below_step HBJ.out hb4)
  clear hcv hss hr4 hb4 hC4 hd4 kc4 HJ HBJ
  go_wp2
  go_ret
  exact ⟨rfl, HB4.out⟩
def seinelaw02_awake.f : Option Bool := some true
theorem seinelaw02_awake.calls (r : Bool) (w : World) (h : seinelaw02_awake.f = some r) :
    Calls Try.prog 9 #[] w fun e w' => e = .returned (.bool r) ∧ Below w.heap.size w w' := by
  obtain rfl := Option.some.inj h
  exact awake_calls w

/-! ### seinelaw02_LinesBack: function 5 -/
mutual
def seinelaw02_LinesBack.l0 : Nat → List Int → List (S31) → List Int → Int → Option (Bool)
  | 0, _, _, _, _ => none
  | k + 1, x0, x4, x5, x6 => if x6 < (x4.length : Int) then (if 0 ≤ x6 then (if ((rd_T31 x4 x6).f0) = (x5.length : Int) then (if ((rd_T31 x4 x6).f2 = true) then (seinelaw02_LinesBack.j1 k x0 x4 x5 x6 false) else (if x6 < (wrap64 ((x4.length : Int) - 1)) then (seinelaw02_LinesBack.j1 k x0 x4 x5 x6 true) else (seinelaw02_LinesBack.j1 k x0 x4 x5 x6 ((((rd_T31 x4 x6).f1).length : Int) == 0)))) else (seinelaw02_LinesBack.j1 k x0 x4 x5 x6 true)) else (none)) else (some ((strOfNums x5).toList == (strOfNums x0).toList))
def seinelaw02_LinesBack.j1 : Nat → List Int → List (S31) → List Int → Int → Bool → Option (Bool)
  | 0, _, _, _, _, _ => none
  | k + 1, x0, x4, x5, x6, x53 => if x53 = true then (none) else (seinelaw02_LinesBack.l1 k x0 x4 x5 x6 0)
def seinelaw02_LinesBack.l1 : Nat → List Int → List (S31) → List Int → Int → Int → Option (Bool)
  | 0, _, _, _, _, _ => none
  | k + 1, x0, x4, x5, x6, x7 => if 0 ≤ x6 then (if x6 < (x4.length : Int) then (if x7 < (((rd_T31 x4 x6).f1).length : Int) then (if 0 ≤ x7 then (if (rd ((rd_T31 x4 x6).f1) x7) = 10 then (none) else (seinelaw02_LinesBack.l1 k x0 x4 x5 x6 (wrap64 (x7 + 1)))) else (none)) else (if x5.length + ((rd_T31 x4 x6).f1).length < 140737488355328 then ((some (x5 ++ ((rd_T31 x4 x6).f1) : List Int)).bind fun y123 => (if (rd_T31 x4 x6).f2 = true then (if y123.length < 140737488355328 then (seinelaw02_LinesBack.l0 k x0 x4 (y123 ++ [10]) (wrap64 (x6 + 1))) else (none)) else (seinelaw02_LinesBack.l0 k x0 x4 y123 (wrap64 (x6 + 1))))) else (none))) else (none)) else (none)
end
def seinelaw02_LinesBack.f (k : Nat) (l0 : List Int) : Option (Bool) := (seinelaw02_awake.f).bind fun t112 => (if t112 = true then (if (l0.length : Int) > 1000 then (some true) else ((lines_Split.f l0).bind fun t113 => (seinelaw02_LinesBack.l0 k l0 t113 ([] : List Int) 0))) else (none))
theorem seinelaw02_LinesBack.mono_l : ∀ k, (∀ y0 y1 y2 y3, LeO (seinelaw02_LinesBack.l0 k y0 y1 y2 y3) (seinelaw02_LinesBack.l0 (k + 1) y0 y1 y2 y3)) ∧ (∀ y0 y1 y2 y3 y4, LeO (seinelaw02_LinesBack.j1 k y0 y1 y2 y3 y4) (seinelaw02_LinesBack.j1 (k + 1) y0 y1 y2 y3 y4)) ∧ (∀ y0 y1 y2 y3 y4, LeO (seinelaw02_LinesBack.l1 k y0 y1 y2 y3 y4) (seinelaw02_LinesBack.l1 (k + 1) y0 y1 y2 y3 y4))
  | 0 => ⟨fun _ _ _ _ r h => by simp [seinelaw02_LinesBack.l0] at h, fun _ _ _ _ _ r h => by simp [seinelaw02_LinesBack.j1] at h, fun _ _ _ _ _ r h => by simp [seinelaw02_LinesBack.l1] at h⟩
  | k + 1 => by
    obtain ⟨ih0, ih1, ih2⟩ := seinelaw02_LinesBack.mono_l k
    refine ⟨?_, ?_, ?_⟩
    · intro y0 y1 y2 y3
      unfold seinelaw02_LinesBack.l0
      repeat' first
      | (with_reducible exact ih0 _ _ _ _)
      | (with_reducible exact ih1 _ _ _ _ _)
      | (with_reducible exact ih2 _ _ _ _ _)
      | (with_reducible exact LeO.refl _)
      | (with_reducible exact LeO.none _)
      | (with_reducible refine LeO.ite ?_ ?_)
      | (with_reducible refine LeO.bind ?_ (fun _ => ?_))
      | exact ih0 _ _ _ _
      | exact ih1 _ _ _ _ _
      | exact ih2 _ _ _ _ _
      | exact LeO.none _
      | refine LeO.ite ?_ ?_
      | refine LeO.bind ?_ (fun _ => ?_)
    · intro y0 y1 y2 y3 y4
      unfold seinelaw02_LinesBack.j1
      repeat' first
      | (with_reducible exact ih0 _ _ _ _)
      | (with_reducible exact ih1 _ _ _ _ _)
      | (with_reducible exact ih2 _ _ _ _ _)
      | (with_reducible exact LeO.refl _)
      | (with_reducible exact LeO.none _)
      | (with_reducible refine LeO.ite ?_ ?_)
      | (with_reducible refine LeO.bind ?_ (fun _ => ?_))
      | exact ih0 _ _ _ _
      | exact ih1 _ _ _ _ _
      | exact ih2 _ _ _ _ _
      | exact LeO.none _
      | refine LeO.ite ?_ ?_
      | refine LeO.bind ?_ (fun _ => ?_)
    · intro y0 y1 y2 y3 y4
      unfold seinelaw02_LinesBack.l1
      repeat' first
      | (with_reducible exact ih0 _ _ _ _)
      | (with_reducible exact ih1 _ _ _ _ _)
      | (with_reducible exact ih2 _ _ _ _ _)
      | (with_reducible exact LeO.refl _)
      | (with_reducible exact LeO.none _)
      | (with_reducible refine LeO.ite ?_ ?_)
      | (with_reducible refine LeO.bind ?_ (fun _ => ?_))
      | exact ih0 _ _ _ _
      | exact ih1 _ _ _ _ _
      | exact ih2 _ _ _ _ _
      | exact LeO.none _
      | refine LeO.ite ?_ ?_
      | refine LeO.bind ?_ (fun _ => ?_)
theorem seinelaw02_LinesBack.mono : ∀ a0 k, LeO (seinelaw02_LinesBack.f k a0) (seinelaw02_LinesBack.f (k + 1) a0) := by
  intro a0 k
  obtain ⟨ih0, ih1, ih2⟩ := seinelaw02_LinesBack.mono_l k
  unfold seinelaw02_LinesBack.f
  repeat' first
      | (with_reducible exact ih0 _ _ _ _)
      | (with_reducible exact ih1 _ _ _ _ _)
      | (with_reducible exact ih2 _ _ _ _ _)
      | (with_reducible exact LeO.refl _)
      | (with_reducible exact LeO.none _)
      | (with_reducible refine LeO.ite ?_ ?_)
      | (with_reducible refine LeO.bind ?_ (fun _ => ?_))
      | exact ih0 _ _ _ _
      | exact ih1 _ _ _ _ _
      | exact ih2 _ _ _ _ _
      | exact LeO.none _
      | refine LeO.ite ?_ ?_
      | refine LeO.bind ?_ (fun _ => ?_)
set_option maxHeartbeats 8000000 in
set_option maxRecDepth 100000 in
theorem seinelaw02_LinesBack.calls (k : Nat) (A0 : Option Addr) (c0 : Nat) (l0 : List Int) (r : Bool) (w : World) (hr0 : Kd.C (Kd.int .u8) w A0 l0.length l0) (hc0 : l0.length ≤ c0) (h : seinelaw02_LinesBack.f k l0 = some r) :
    Calls Try.prog 5 #[.slice A0 l0.length c0] w fun e w' => e = .returned (.bool r) ∧ Below w.heap.size w w' := by
  have HR0 := Aside0.mk hr0
  have HC0 := Aside0.mk hc0
  clear hr0 hc0
  have HB := Aside0.mk (Below.refl w.heap.size w)
  have H : ((seinelaw02_awake.f).bind fun t112 => (if t112 = true then (if (l0.length : Int) > 1000 then (some true) else ((lines_Split.f l0).bind fun t113 => (seinelaw02_LinesBack.l0 k l0 t113 ([] : List Int) 0))) else (none))) = some r := h
  clear h
  replace H := Option.bind_eq_some_iff.mp H
  obtain ⟨t112, A20, H⟩ := H
  replace H : (if t112 = true then (if (l0.length : Int) > 1000 then (some true) else ((lines_Split.f l0).bind fun t113 => (seinelaw02_LinesBack.l0 k l0 t113 ([] : List Int) 0))) else (none)) = some r := H
  have A2 := Aside0.mk A20
  clear A20
  by_cases c3 : t112 = true
  · subst c3
    have H1 : (if (l0.length : Int) > 1000 then (some true) else ((lines_Split.f l0).bind fun t113 => (seinelaw02_LinesBack.l0 k l0 t113 ([] : List Int) 0))) = some r := by rw [if_pos rfl] at H; exact H
    clear H
    have H := H1
    clear H1
    by_cases c4 : (l0.length : Int) > 1000
    · rw [if_pos c4] at H
      have c4b0 : decide (1000 < (l0.length : Int)) = true := decide_eq_true c4
      have c4b1 : decide (1000 < l0.length) = true := decide_eq_true (by omega)
      clear c4
      obtain rfl := Option.some.inj H
      go_enter Try.func5, Try.ntmps5
      go_wp2_with (first | ((with_reducible refine gate_callee (f := 9) rfl ?_); refine goesL_ (some 8) rfl rfl Try.func9 (by kernel_rfl) rfl #[] rfl (by (try simp only [List.map_toArray, List.map_cons, List.map_nil]); first | done | rfl | (simp only [List.length_drop, List.length_take]; rfl)) ?_; (with_reducible refine (seinelaw02_awake.calls  true _ A2.out).mono ?_); rintro e w5 ⟨rfl, hb⟩; refine ⟨_, rfl, ?_⟩; have n0_ := Aside0.mk (below_step (by repeat (first | (with_reducible first | exact HB.out | apply below_alloc | apply pw_below_drewN | apply below_drew1) | exact HB.out)) hb); clear HB; have HB := n0_; clear n0_; (try clear hb); (try clear hb2); (try clear hk); (try clear hi)))
      go_ret
      exact ⟨by first | rfl | (simp [errW_none, errW_some] <;> rfl) | (simp [*, errW_none, errW_some] <;> rfl), by repeat (first | (with_reducible first | exact HB.out | apply below_alloc | apply pw_below_drewN | apply below_drew1) | exact HB.out)⟩
    · rw [if_neg c4] at H
      have c4b0 : decide (1000 < (l0.length : Int)) = false := decide_eq_false c4
      have c4b1 : decide (1000 < l0.length) = false := decide_eq_false (by omega)
      clear c4
      replace H := Option.bind_eq_some_iff.mp H
      obtain ⟨t113, A60, H⟩ := H
      replace H : (seinelaw02_LinesBack.l0 k l0 t113 ([] : List Int) 0) = some r := H
      have A6 := Aside0.mk A60
      clear A60
      have H' := Aside0.mk H
      clear H
      go_enter Try.func5, Try.ntmps5
      go_wp2_with (first | ((with_reducible refine gate_callee (f := 9) rfl ?_); refine goesL_ (some 8) rfl rfl Try.func9 (by kernel_rfl) rfl #[] rfl (by (try simp only [List.map_toArray, List.map_cons, List.map_nil]); first | done | rfl | (simp only [List.length_drop, List.length_take]; rfl)) ?_; (with_reducible refine (seinelaw02_awake.calls  true _ A2.out).mono ?_); rintro e w7 ⟨rfl, hb⟩; refine ⟨_, rfl, ?_⟩; have n0_ := Aside0.mk (below_step (by repeat (first | (with_reducible first | exact HB.out | apply below_alloc | apply pw_below_drewN | apply below_drew1) | exact HB.out)) hb); clear HB; have HB := n0_; clear n0_; (try clear hb); (try clear hb2); (try clear hk); (try clear hi)) | ((with_reducible refine gate_callee (f := 10) rfl ?_); refine goesL_ (some 15) rfl rfl Try.func10 (by kernel_rfl) rfl #[.slice A0 l0.length c0] rfl (by (try simp only [List.map_toArray, List.map_cons, List.map_nil]); first | done | rfl | (simp only [List.length_drop, List.length_take]; rfl)) ?_; (with_reducible refine (lines_Split.calls _ _ l0 t113 _ ?side1 ?side2 A6.out).mono ?_); (case side1 => repeat (first | exact (Kd.C_below HR0.out HB.out) | (with_reducible refine Kd.C_alloc ?_ _) | (with_reducible refine Kd.C_drewN ?_ _) | (with_reducible refine Kd.C_drew ?_))); (case side2 => exact HC0.out); rintro e w8 ⟨v114, rfl, ho0, hb⟩; refine ⟨_, rfl, ?_⟩; have n0_ := Aside0.mk (Kd.S_lower ho0 (below_size (by repeat (first | (with_reducible first | exact HB.out | apply below_alloc | apply pw_below_drewN | apply below_drew1) | exact HB.out)))); have n1_ := Aside0.mk (below_step (by repeat (first | (with_reducible first | exact HB.out | apply below_alloc | apply pw_below_drewN | apply below_drew1) | exact HB.out)) hb); clear HB; have HO115 := n0_; have HB := n1_; clear n0_ n1_; (try clear hb); (try clear hb2); (try clear hk); (try clear hi); (try clear ho0)))
      go_loopg [5, 6] k (fun kq v5 v6 w' => ∃ (x5_1 : List Int) (x6_1 : Int), v6 = .int .i64 x6_1 ∧ Aside0 (seinelaw02_LinesBack.l0 kq l0 t113 x5_1 x6_1 = some r) ∧ Aside0 (kq ≤ k) ∧ Aside0 (Kd.S k31 31 w' w.heap.size (fun k_ => some k_ ≠ (v5 : Value).ownBlock) v114 t113) ∧ Aside0 (Kd.R (Kd.int .u8) 5 w' w.heap.size (fun _ => True) v5 x5_1) ∧ Aside0 (Below w.heap.size w w'))
      case atStart => exact ⟨(([] : List Int)), (0), (by first | rfl | (simp; done) | (simp [*]; done) | (simp; exact (by intro a b; cases a <;> cases b <;> rfl : ∀ a b : Bool, (a == b) = (!(a != b))) _ _)), H', ⟨Nat.le_refl _⟩, ⟨by (with_reducible repeat (first | apply Kd.S_alloc | apply Kd.S_drewN | apply Kd.S_drew)); exact Kd.S_mono HO115.out (fun _ hk => (by simp [Value.ownBlock]))⟩, ⟨by first | exact Kd.R_nil _ _ _ _ _ | exact Kd.N_nil _ _ _ _ _ | exact Kd.V_nil _ _ _ _ _ | exact Kd.Q_nil _ _ _ _ _ | exact Kd.S_nil _ _ _ _ _⟩, ⟨by repeat (first | (with_reducible first | exact HB.out | apply below_alloc | apply pw_below_drewN | apply below_drew1) | exact HB.out)⟩⟩
      case round =>
        clear H'
        try clear c1
        try clear p2
        try clear c3
        try clear c4
        try clear c4b0
        try clear c4b1
        try clear c5
        obtain ⟨x5_1, x6_1, rfl, HA, HK1, HO_4, HO_5, HB⟩ := hrel
        cases gk with
        | zero => exact absurd HA.out (by simp [seinelaw02_LinesBack.l0])
        | succ k1 =>
          have H := HA.out
          clear HA
          simp only [seinelaw02_LinesBack.l0] at H
          by_cases c9 : x6_1 < (t113.length : Int)
          · rw [if_pos c9] at H
            have c9b0 : decide (x6_1 < (t113.length : Int)) = true := decide_eq_true c9
            clear c9
            have HC10 := Aside0.mk H
            clear H
            obtain ⟨Ao11, co11, eo11⟩ := Kd.S_slice HO_4.out
            subst eo11
            go_upto_region 11 with (fail)
            go_cut [53] (fun v53 wc => ∃ (kq : Nat) (x53_9 : Bool), v53 = .bool x53_9 ∧ Aside0 (seinelaw02_LinesBack.j1 kq l0 t113 x5_1 x6_1 x53_9 = some r) ∧ Aside0 (kq ≤ k1) ∧ Aside0 (Kd.S k31 31 wc w.heap.size (fun k_ => some k_ ≠ (u5 : Value).ownBlock) (.slice Ao11 t113.length co11) t113) ∧ Aside0 (Kd.R (Kd.int .u8) 5 wc w.heap.size (fun _ => True) u5 x5_1) ∧ Aside0 (Below w.heap.size w wc))
            case first =>
              have H := HC10.out
              clear HC10
              by_cases c12 : 0 ≤ x6_1
              · rw [if_pos c12] at H
                have c12b0 : decide (0 ≤ x6_1) = true := decide_eq_true c12
                clear c12
                (first | rw [c12b0] | (simp only [i64_w, i32_w]; rw [c12b0]) | skip)
                by_cases c13 : ((rd_T31 t113 x6_1).f0) = (x5_1.length : Int)
                · rw [if_pos c13] at H
                  have c13b0 : (((rd_T31 t113 x6_1).f0) == (x5_1.length : Int)) = true := beq_iff_eq.mpr c13
                  have c13b1 : (((rd_T31 t113 x6_1).f0) != (x5_1.length : Int)) = false := bne_eq_false_iff_eq.mpr c13
                  clear c13
                  obtain ⟨bq14, hbq14⟩ : ∃ b_ : Bool, b_ = ((rd_T31 t113 x6_1).f2) := ⟨_, rfl⟩
                  replace H : (if (bq14 = true) then (seinelaw02_LinesBack.j1 k1 l0 t113 x5_1 x6_1 false) else (if x6_1 < (wrap64 ((t113.length : Int) - 1)) then (seinelaw02_LinesBack.j1 k1 l0 t113 x5_1 x6_1 true) else (seinelaw02_LinesBack.j1 k1 l0 t113 x5_1 x6_1 ((((rd_T31 t113 x6_1).f1).length : Int) == 0)))) = some r := by rw [← hbq14] at H; exact H
                  have Nbq14 := Aside0.mk hbq14
                  clear hbq14
                  by_cases c15 : (bq14 = true)
                  · subst c15
                    have H1 : (seinelaw02_LinesBack.j1 k1 l0 t113 x5_1 x6_1 false) = some r := by rw [if_pos rfl] at H; exact H
                    clear H
                    have H := H1
                    clear H1
                    have H' := Aside0.mk H
                    clear H
                    have p116 : 0 ≤ (x6_1 : Int) := of_decide_eq_true (by first | (with_reducible assumption) | assumption)
                    have q116 : x6_1 < (t113.length : Int) := of_decide_eq_true (by first | (with_reducible assumption) | assumption)
                    obtain ⟨ad116, A116_1, c116_1, e116, hx116_0, hx116_1, hx116_2, hl116_1, hi116_1⟩ := at_T31 (Kd.S_reads' HO_4.out).2.2 x6_1 p116 q116
                    (try rw [← Nbq14.out] at hx116_2)
                    cases e116
                    obtain ⟨ce116, hce116, hMe116, hcc116⟩ := Kd.S_get HO_4.out z31 x6_1 p116 (by first | exact q116 | exact of_decide_eq_true (by first | (with_reducible assumption) | assumption) | (have e_ := (Kd.S_reads' HO_4.out).1; omega))
                    obtain ⟨ve116_1, rfl, ge116_1⟩ := k31_openM hMe116
                    have hv116_1 := hcc116 1 _ rfl
                    rw [add_field _ _ 1 (by omega)] at hv116_1
                    replace hv116_1 := Option.some.inj (hv116_1.symm.trans hx116_1)
                    rw [hv116_1] at ge116_1
                    have HL116_1 := Aside0.mk (show Kd.R (Kd.int .u8) 5 _ _ _ _ ((rd_T31 t113 x6_1).f1) from ge116_1)
                    clear hv116_1 ge116_1
                    clear hcc116 hce116
                    have HR116_1 := Aside0.mk hi116_1
                    have HC116_1 := Aside0.mk hl116_1
                    clear hi116_1 hl116_1
                    replace p116 := eq_true p116
                    replace q116 := eq_true q116
                    obtain ⟨Ao16, co16, eo16⟩ := Kd.R_slice HO_5.out
                    subst eo16
                    have p117 : 0 ≤ (x6_1 : Int) := of_decide_eq_true (by first | (with_reducible assumption) | assumption)
                    have q117 : x6_1 < (t113.length : Int) := of_decide_eq_true (by first | (with_reducible assumption) | assumption)
                    obtain ⟨ad117, A117_1, c117_1, e117, hx117_0, hx117_1, hx117_2, hl117_1, hi117_1⟩ := at_T31 (Kd.S_reads' HO_4.out).2.2 x6_1 p117 q117
                    (try rw [← Nbq14.out] at hx117_2)
                    obtain rfl : ad116 = ad117 := (by injection e117)
                    obtain ⟨ce117, hce117, hMe117, hcc117⟩ := Kd.S_get HO_4.out z31 x6_1 p117 (by first | exact q117 | exact of_decide_eq_true (by first | (with_reducible assumption) | assumption) | (have e_ := (Kd.S_reads' HO_4.out).1; omega))
                    obtain ⟨ve117_1, rfl, ge117_1⟩ := k31_openM hMe117
                    have hv117_1 := hcc117 1 _ rfl
                    rw [add_field _ _ 1 (by omega)] at hv117_1
                    replace hv117_1 := Option.some.inj (hv117_1.symm.trans hx117_1)
                    rw [hv117_1] at ge117_1
                    have HL117_1 := Aside0.mk (show Kd.R (Kd.int .u8) 5 _ _ _ _ ((rd_T31 t113 x6_1).f1) from ge117_1)
                    clear hv117_1 ge117_1
                    clear hcc117 hce117
                    have HR117_1 := Aside0.mk hi117_1
                    have HC117_1 := Aside0.mk hl117_1
                    clear hi117_1 hl117_1
                    replace p117 := eq_true p117
                    replace q117 := eq_true q117
                    have ea_ := Option.some.inj (hx116_1.symm.trans hx117_1)
                    injection ea_ with ea_ en_ ec_
                    subst ea_
                    subst ec_
                    clear en_
                    go_wp2
                    go_meet
                    case rel => exact ⟨_, (false), (by first | rfl | (simp; done) | (simp [*]; done) | (simp; exact (by intro a b; cases a <;> cases b <;> rfl : ∀ a b : Bool, (a == b) = (!(a != b))) _ _)), H', ⟨by have := HK1.out; first | omega | exact Nat.le_refl _⟩, ⟨by (with_reducible repeat (first | apply Kd.S_alloc | apply Kd.S_drewN | apply Kd.S_drew)); exact HO_4.out⟩, ⟨by (with_reducible repeat (first | apply Kd.R_alloc | apply Kd.R_drewN | apply Kd.R_drew)); exact HO_5.out⟩, ⟨by repeat (first | (with_reducible first | exact HB.out | apply below_alloc | apply pw_below_drewN | apply below_drew1) | exact HB.out)⟩⟩
                  · replace c15 := Bool.eq_false_iff.mpr c15
                    subst c15
                    have H1 : (if x6_1 < (wrap64 ((t113.length : Int) - 1)) then (seinelaw02_LinesBack.j1 k1 l0 t113 x5_1 x6_1 true) else (seinelaw02_LinesBack.j1 k1 l0 t113 x5_1 x6_1 ((((rd_T31 t113 x6_1).f1).length : Int) == 0))) = some r := by rw [if_neg (show ¬ (false = true) by decide)] at H; exact H
                    clear H
                    have H := H1
                    clear H1
                    by_cases c17 : x6_1 < (wrap64 ((t113.length : Int) - 1))
                    · rw [if_pos c17] at H
                      have c17b0 : decide (x6_1 < (wrap64 ((t113.length : Int) - 1))) = true := decide_eq_true c17
                      clear c17
                      have H' := Aside0.mk H
                      clear H
                      have p116 : 0 ≤ (x6_1 : Int) := of_decide_eq_true (by first | (with_reducible assumption) | assumption)
                      have q116 : x6_1 < (t113.length : Int) := of_decide_eq_true (by first | (with_reducible assumption) | assumption)
                      obtain ⟨ad116, A116_1, c116_1, e116, hx116_0, hx116_1, hx116_2, hl116_1, hi116_1⟩ := at_T31 (Kd.S_reads' HO_4.out).2.2 x6_1 p116 q116
                      (try rw [← Nbq14.out] at hx116_2)
                      cases e116
                      obtain ⟨ce116, hce116, hMe116, hcc116⟩ := Kd.S_get HO_4.out z31 x6_1 p116 (by first | exact q116 | exact of_decide_eq_true (by first | (with_reducible assumption) | assumption) | (have e_ := (Kd.S_reads' HO_4.out).1; omega))
                      obtain ⟨ve116_1, rfl, ge116_1⟩ := k31_openM hMe116
                      have hv116_1 := hcc116 1 _ rfl
                      rw [add_field _ _ 1 (by omega)] at hv116_1
                      replace hv116_1 := Option.some.inj (hv116_1.symm.trans hx116_1)
                      rw [hv116_1] at ge116_1
                      have HL116_1 := Aside0.mk (show Kd.R (Kd.int .u8) 5 _ _ _ _ ((rd_T31 t113 x6_1).f1) from ge116_1)
                      clear hv116_1 ge116_1
                      clear hcc116 hce116
                      have HR116_1 := Aside0.mk hi116_1
                      have HC116_1 := Aside0.mk hl116_1
                      clear hi116_1 hl116_1
                      replace p116 := eq_true p116
                      replace q116 := eq_true q116
                      obtain ⟨Ao18, co18, eo18⟩ := Kd.R_slice HO_5.out
                      subst eo18
                      have p117 : 0 ≤ (x6_1 : Int) := of_decide_eq_true (by first | (with_reducible assumption) | assumption)
                      have q117 : x6_1 < (t113.length : Int) := of_decide_eq_true (by first | (with_reducible assumption) | assumption)
                      obtain ⟨ad117, A117_1, c117_1, e117, hx117_0, hx117_1, hx117_2, hl117_1, hi117_1⟩ := at_T31 (Kd.S_reads' HO_4.out).2.2 x6_1 p117 q117
                      (try rw [← Nbq14.out] at hx117_2)
                      obtain rfl : ad116 = ad117 := (by injection e117)
                      obtain ⟨ce117, hce117, hMe117, hcc117⟩ := Kd.S_get HO_4.out z31 x6_1 p117 (by first | exact q117 | exact of_decide_eq_true (by first | (with_reducible assumption) | assumption) | (have e_ := (Kd.S_reads' HO_4.out).1; omega))
                      obtain ⟨ve117_1, rfl, ge117_1⟩ := k31_openM hMe117
                      have hv117_1 := hcc117 1 _ rfl
                      rw [add_field _ _ 1 (by omega)] at hv117_1
                      replace hv117_1 := Option.some.inj (hv117_1.symm.trans hx117_1)
                      rw [hv117_1] at ge117_1
                      have HL117_1 := Aside0.mk (show Kd.R (Kd.int .u8) 5 _ _ _ _ ((rd_T31 t113 x6_1).f1) from ge117_1)
                      clear hv117_1 ge117_1
                      clear hcc117 hce117
                      have HR117_1 := Aside0.mk hi117_1
                      have HC117_1 := Aside0.mk hl117_1
                      clear hi117_1 hl117_1
                      replace p117 := eq_true p117
                      replace q117 := eq_true q117
                      have ea_ := Option.some.inj (hx116_1.symm.trans hx117_1)
                      injection ea_ with ea_ en_ ec_
                      subst ea_
                      subst ec_
                      clear en_
                      go_wp2
                      go_meet
                      case rel => exact ⟨_, (true), (by first | rfl | (simp; done) | (simp [*]; done) | (simp; exact (by intro a b; cases a <;> cases b <;> rfl : ∀ a b : Bool, (a == b) = (!(a != b))) _ _)), H', ⟨by have := HK1.out; first | omega | exact Nat.le_refl _⟩, ⟨by (with_reducible repeat (first | apply Kd.S_alloc | apply Kd.S_drewN | apply Kd.S_drew)); exact HO_4.out⟩, ⟨by (with_reducible repeat (first | apply Kd.R_alloc | apply Kd.R_drewN | apply Kd.R_drew)); exact HO_5.out⟩, ⟨by repeat (first | (with_reducible first | exact HB.out | apply below_alloc | apply pw_below_drewN | apply below_drew1) | exact HB.out)⟩⟩
                    · rw [if_neg c17] at H
                      have c17b0 : decide (x6_1 < (wrap64 ((t113.length : Int) - 1))) = false := decide_eq_false c17
                      clear c17
                      have H' := Aside0.mk H
                      clear H
                      have p116 : 0 ≤ (x6_1 : Int) := of_decide_eq_true (by first | (with_reducible assumption) | assumption)
                      have q116 : x6_1 < (t113.length : Int) := of_decide_eq_true (by first | (with_reducible assumption) | assumption)
                      obtain ⟨ad116, A116_1, c116_1, e116, hx116_0, hx116_1, hx116_2, hl116_1, hi116_1⟩ := at_T31 (Kd.S_reads' HO_4.out).2.2 x6_1 p116 q116
                      (try rw [← Nbq14.out] at hx116_2)
                      cases e116
                      obtain ⟨ce116, hce116, hMe116, hcc116⟩ := Kd.S_get HO_4.out z31 x6_1 p116 (by first | exact q116 | exact of_decide_eq_true (by first | (with_reducible assumption) | assumption) | (have e_ := (Kd.S_reads' HO_4.out).1; omega))
                      obtain ⟨ve116_1, rfl, ge116_1⟩ := k31_openM hMe116
                      have hv116_1 := hcc116 1 _ rfl
                      rw [add_field _ _ 1 (by omega)] at hv116_1
                      replace hv116_1 := Option.some.inj (hv116_1.symm.trans hx116_1)
                      rw [hv116_1] at ge116_1
                      have HL116_1 := Aside0.mk (show Kd.R (Kd.int .u8) 5 _ _ _ _ ((rd_T31 t113 x6_1).f1) from ge116_1)
                      clear hv116_1 ge116_1
                      clear hcc116 hce116
                      have HR116_1 := Aside0.mk hi116_1
                      have HC116_1 := Aside0.mk hl116_1
                      clear hi116_1 hl116_1
                      replace p116 := eq_true p116
                      replace q116 := eq_true q116
                      obtain ⟨Ao19, co19, eo19⟩ := Kd.R_slice HO_5.out
                      subst eo19
                      have p117 : 0 ≤ (x6_1 : Int) := of_decide_eq_true (by first | (with_reducible assumption) | assumption)
                      have q117 : x6_1 < (t113.length : Int) := of_decide_eq_true (by first | (with_reducible assumption) | assumption)
                      obtain ⟨ad117, A117_1, c117_1, e117, hx117_0, hx117_1, hx117_2, hl117_1, hi117_1⟩ := at_T31 (Kd.S_reads' HO_4.out).2.2 x6_1 p117 q117
                      (try rw [← Nbq14.out] at hx117_2)
                      obtain rfl : ad116 = ad117 := (by injection e117)
                      obtain ⟨ce117, hce117, hMe117, hcc117⟩ := Kd.S_get HO_4.out z31 x6_1 p117 (by first | exact q117 | exact of_decide_eq_true (by first | (with_reducible assumption) | assumption) | (have e_ := (Kd.S_reads' HO_4.out).1; omega))
                      obtain ⟨ve117_1, rfl, ge117_1⟩ := k31_openM hMe117
                      have hv117_1 := hcc117 1 _ rfl
                      rw [add_field _ _ 1 (by omega)] at hv117_1
                      replace hv117_1 := Option.some.inj (hv117_1.symm.trans hx117_1)
                      rw [hv117_1] at ge117_1
                      have HL117_1 := Aside0.mk (show Kd.R (Kd.int .u8) 5 _ _ _ _ ((rd_T31 t113 x6_1).f1) from ge117_1)
                      clear hv117_1 ge117_1
                      clear hcc117 hce117
                      have HR117_1 := Aside0.mk hi117_1
                      have HC117_1 := Aside0.mk hl117_1
                      clear hi117_1 hl117_1
                      replace p117 := eq_true p117
                      replace q117 := eq_true q117
                      have ea_ := Option.some.inj (hx116_1.symm.trans hx117_1)
                      injection ea_ with ea_ en_ ec_
                      subst ea_
                      subst ec_
                      clear en_
                      have p118 : 0 ≤ (x6_1 : Int) := of_decide_eq_true (by first | (with_reducible assumption) | assumption)
                      have q118 : x6_1 < (t113.length : Int) := of_decide_eq_true (by first | (with_reducible assumption) | assumption)
                      obtain ⟨ad118, A118_1, c118_1, e118, hx118_0, hx118_1, hx118_2, hl118_1, hi118_1⟩ := at_T31 (Kd.S_reads' HO_4.out).2.2 x6_1 p118 q118
                      (try rw [← Nbq14.out] at hx118_2)
                      obtain rfl : ad116 = ad118 := (by injection e118)
                      obtain ⟨ce118, hce118, hMe118, hcc118⟩ := Kd.S_get HO_4.out z31 x6_1 p118 (by first | exact q118 | exact of_decide_eq_true (by first | (with_reducible assumption) | assumption) | (have e_ := (Kd.S_reads' HO_4.out).1; omega))
                      obtain ⟨ve118_1, rfl, ge118_1⟩ := k31_openM hMe118
                      have hv118_1 := hcc118 1 _ rfl
                      rw [add_field _ _ 1 (by omega)] at hv118_1
                      replace hv118_1 := Option.some.inj (hv118_1.symm.trans hx118_1)
                      rw [hv118_1] at ge118_1
                      have HL118_1 := Aside0.mk (show Kd.R (Kd.int .u8) 5 _ _ _ _ ((rd_T31 t113 x6_1).f1) from ge118_1)
                      clear hv118_1 ge118_1
                      clear hcc118 hce118
                      have HR118_1 := Aside0.mk hi118_1
                      have HC118_1 := Aside0.mk hl118_1
                      clear hi118_1 hl118_1
                      replace p118 := eq_true p118
                      replace q118 := eq_true q118
                      have ea_ := Option.some.inj (hx116_1.symm.trans hx118_1)
                      injection ea_ with ea_ en_ ec_
                      subst ea_
                      subst ec_
                      clear en_
                      go_wp2
                      go_meet
                      case rel => exact ⟨_, (((((rd_T31 t113 x6_1).f1).length : Int) == 0)), (by first | rfl | (simp; done) | (simp [*]; done) | (simp; exact (by intro a b; cases a <;> cases b <;> rfl : ∀ a b : Bool, (a == b) = (!(a != b))) _ _)), H', ⟨by have := HK1.out; first | omega | exact Nat.le_refl _⟩, ⟨by (with_reducible repeat (first | apply Kd.S_alloc | apply Kd.S_drewN | apply Kd.S_drew)); exact HO_4.out⟩, ⟨by (with_reducible repeat (first | apply Kd.R_alloc | apply Kd.R_drewN | apply Kd.R_drew)); exact HO_5.out⟩, ⟨by repeat (first | (with_reducible first | exact HB.out | apply below_alloc | apply pw_below_drewN | apply below_drew1) | exact HB.out)⟩⟩
                · rw [if_neg c13] at H
                  have c13b0 : (((rd_T31 t113 x6_1).f0) == (x5_1.length : Int)) = false := beq_eq_false_iff_ne.mpr c13
                  have c13b1 : (((rd_T31 t113 x6_1).f0) != (x5_1.length : Int)) = true := bne_iff_ne.mpr c13
                  have H' := Aside0.mk H
                  clear H
                  have p116 : 0 ≤ (x6_1 : Int) := of_decide_eq_true (by first | (with_reducible assumption) | assumption)
                  have q116 : x6_1 < (t113.length : Int) := of_decide_eq_true (by first | (with_reducible assumption) | assumption)
                  obtain ⟨ad116, A116_1, c116_1, e116, hx116_0, hx116_1, hx116_2, hl116_1, hi116_1⟩ := at_T31 (Kd.S_reads' HO_4.out).2.2 x6_1 p116 q116
                  cases e116
                  obtain ⟨ce116, hce116, hMe116, hcc116⟩ := Kd.S_get HO_4.out z31 x6_1 p116 (by first | exact q116 | exact of_decide_eq_true (by first | (with_reducible assumption) | assumption) | (have e_ := (Kd.S_reads' HO_4.out).1; omega))
                  obtain ⟨ve116_1, rfl, ge116_1⟩ := k31_openM hMe116
                  have hv116_1 := hcc116 1 _ rfl
                  rw [add_field _ _ 1 (by omega)] at hv116_1
                  replace hv116_1 := Option.some.inj (hv116_1.symm.trans hx116_1)
                  rw [hv116_1] at ge116_1
                  have HL116_1 := Aside0.mk (show Kd.R (Kd.int .u8) 5 _ _ _ _ ((rd_T31 t113 x6_1).f1) from ge116_1)
                  clear hv116_1 ge116_1
                  clear hcc116 hce116
                  have HR116_1 := Aside0.mk hi116_1
                  have HC116_1 := Aside0.mk hl116_1
                  clear hi116_1 hl116_1
                  replace p116 := eq_true p116
                  replace q116 := eq_true q116
                  obtain ⟨Ao20, co20, eo20⟩ := Kd.R_slice HO_5.out
                  subst eo20
                  go_wp2
                  go_meet
                  case rel => exact ⟨_, (true), (by first | rfl | (simp; done) | (simp [*]; done) | (simp; exact (by intro a b; cases a <;> cases b <;> rfl : ∀ a b : Bool, (a == b) = (!(a != b))) _ _)), H', ⟨by have := HK1.out; first | omega | exact Nat.le_refl _⟩, ⟨by (with_reducible repeat (first | apply Kd.S_alloc | apply Kd.S_drewN | apply Kd.S_drew)); exact HO_4.out⟩, ⟨by (with_reducible repeat (first | apply Kd.R_alloc | apply Kd.R_drewN | apply Kd.R_drew)); exact HO_5.out⟩, ⟨by repeat (first | (with_reducible first | exact HB.out | apply below_alloc | apply pw_below_drewN | apply below_drew1) | exact HB.out)⟩⟩
              · rw [if_neg c12] at H
                exact absurd H (by simp)
            case rest =>
              clear HC10
              try clear c1
              try clear p1
              try clear q1
              try clear hx1
              try clear p2
              try clear c3
              try clear c4
              try clear c4b0
              try clear c4b1
              try clear c5
              try clear p6
              try clear c9
              try clear c9b0
              try clear c10
              try clear c11
              try clear p11
              try clear q11
              try clear hx11
              try clear c12
              try clear c12b0
              try clear c13
              try clear c13b0
              try clear c13b1
              try clear q14
              try clear c15
              try clear c17
              try clear c17b0
              try clear hx116_0
              try clear hx116_1
              try clear hx116_2
              try clear hx117_0
              try clear hx117_1
              try clear hx117_2
              try clear hx118_0
              try clear hx118_1
              try clear hx118_2
              try clear p116
              try clear p117
              try clear p118
              try clear p2
              try clear q116
              try clear q117
              try clear q118
              obtain ⟨kq, x53_9, rfl, HA, HJ9, HO_4, HO_5, HB⟩ := hcut
              cases kq with
              | zero => exact absurd HA.out (by simp [seinelaw02_LinesBack.j1])
              | succ kj9 =>
                have H := HA.out
                clear HA
                simp only [seinelaw02_LinesBack.j1] at H
                by_cases c21 : x53_9 = true
                · subst c21
                  have H1 : (none) = some r := by rw [if_pos rfl] at H; exact H
                  clear H
                  have H := H1
                  clear H1
                  exact absurd H (by simp)
                · replace c21 := Bool.eq_false_iff.mpr c21
                  subst c21
                  have H1 : (seinelaw02_LinesBack.l1 kj9 l0 t113 x5_1 x6_1 0) = some r := by rw [if_neg (show ¬ (false = true) by decide)] at H; exact H
                  clear H
                  have H := H1
                  clear H1
                  have H' := Aside0.mk H
                  clear H
                  go_wp2
                  go_loopg [7] kj9 (fun kq v7 w' => ∃ (x7_3 : Int), v7 = .int .i64 x7_3 ∧ Aside0 (seinelaw02_LinesBack.l1 kq l0 t113 x5_1 x6_1 x7_3 = some r) ∧ Aside0 (kq ≤ kj9) ∧ Aside0 (Kd.S k31 31 w' w.heap.size (fun k_ => some k_ ≠ (u5 : Value).ownBlock) (.slice Ao11 t113.length co11) t113) ∧ Aside0 (Kd.R (Kd.int .u8) 5 w' w.heap.size (fun _ => True) u5 x5_1) ∧ Aside0 (Below w.heap.size w w'))
                  case atStart => exact ⟨(0), (by first | rfl | (simp; done) | (simp [*]; done) | (simp; exact (by intro a b; cases a <;> cases b <;> rfl : ∀ a b : Bool, (a == b) = (!(a != b))) _ _)), H', ⟨Nat.le_refl _⟩, ⟨by (with_reducible repeat (first | apply Kd.S_alloc | apply Kd.S_drewN | apply Kd.S_drew)); exact HO_4.out⟩, ⟨by (with_reducible repeat (first | apply Kd.R_alloc | apply Kd.R_drewN | apply Kd.R_drew)); exact HO_5.out⟩, ⟨by repeat (first | (with_reducible first | exact HB.out | apply below_alloc | apply pw_below_drewN | apply below_drew1) | exact HB.out)⟩⟩
                  case round =>
                    clear H'
                    try clear c1
                    try clear p1
                    try clear q1
                    try clear hx1
                    try clear c2
                    try clear p2
                    try clear c3
                    try clear c4
                    try clear c4b0
                    try clear c4b1
                    try clear c5
                    try clear p6
                    try clear c9
                    try clear c9b0
                    try clear c10
                    try clear c11
                    try clear p11
                    try clear q11
                    try clear hx11
                    try clear c12
                    try clear c12b0
                    try clear c13
                    try clear c13b0
                    try clear c13b1
                    try clear q14
                    try clear c15
                    try clear c17
                    try clear c17b0
                    try clear c21
                    try clear hx116_0
                    try clear hx116_1
                    try clear hx116_2
                    try clear hx117_0
                    try clear hx117_1
                    try clear hx117_2
                    try clear hx118_0
                    try clear hx118_1
                    try clear hx118_2
                    try clear p1
                    try clear p11
                    try clear p116
                    try clear p117
                    try clear p118
                    try clear p2
                    try clear p6
                    try clear q1
                    try clear q11
                    try clear q116
                    try clear q117
                    try clear q118
                    try clear q14
                    obtain ⟨x7_3, rfl, HA, HK3, HO_4, HO_5, HB⟩ := hrel
                    cases gk with
                    | zero => exact absurd HA.out (by simp [seinelaw02_LinesBack.l1])
                    | succ k3 =>
                      have H := HA.out
                      clear HA
                      simp only [seinelaw02_LinesBack.l1] at H
                      by_cases c22 : 0 ≤ x6_1
                      · rw [if_pos c22] at H
                        have c22b0 : decide (0 ≤ x6_1) = true := decide_eq_true c22
                        clear c22
                        by_cases c23 : x6_1 < (t113.length : Int)
                        · rw [if_pos c23] at H
                          have c23b0 : decide (x6_1 < (t113.length : Int)) = true := decide_eq_true c23
                          clear c23
                          by_cases c24 : x7_3 < (((rd_T31 t113 x6_1).f1).length : Int)
                          · rw [if_pos c24] at H
                            have c24b0 : decide (x7_3 < (((rd_T31 t113 x6_1).f1).length : Int)) = true := decide_eq_true c24
                            clear c24
                            by_cases c25 : 0 ≤ x7_3
                            · rw [if_pos c25] at H
                              have c25b0 : decide (0 ≤ x7_3) = true := decide_eq_true c25
                              clear c25
                              by_cases c26 : (rd ((rd_T31 t113 x6_1).f1) x7_3) = 10
                              · rw [if_pos c26] at H
                                exact absurd H (by simp)
                              · rw [if_neg c26] at H
                                have c26b0 : ((rd ((rd_T31 t113 x6_1).f1) x7_3) == 10) = false := beq_eq_false_iff_ne.mpr c26
                                have c26b1 : ((rd ((rd_T31 t113 x6_1).f1) x7_3) != 10) = true := bne_iff_ne.mpr c26
                                have H' := Aside0.mk H
                                clear H
                                have p119 : 0 ≤ (x6_1 : Int) := of_decide_eq_true (by first | (with_reducible assumption) | assumption)
                                have q119 : x6_1 < (t113.length : Int) := of_decide_eq_true (by first | (with_reducible assumption) | assumption)
                                obtain ⟨ad119, A119_1, c119_1, e119, hx119_0, hx119_1, hx119_2, hl119_1, hi119_1⟩ := at_T31 (Kd.S_reads' HO_4.out).2.2 x6_1 p119 q119
                                cases e119
                                obtain ⟨ce119, hce119, hMe119, hcc119⟩ := Kd.S_get HO_4.out z31 x6_1 p119 (by first | exact q119 | exact of_decide_eq_true (by first | (with_reducible assumption) | assumption) | (have e_ := (Kd.S_reads' HO_4.out).1; omega))
                                obtain ⟨ve119_1, rfl, ge119_1⟩ := k31_openM hMe119
                                have hv119_1 := hcc119 1 _ rfl
                                rw [add_field _ _ 1 (by omega)] at hv119_1
                                replace hv119_1 := Option.some.inj (hv119_1.symm.trans hx119_1)
                                rw [hv119_1] at ge119_1
                                have HL119_1 := Aside0.mk (show Kd.R (Kd.int .u8) 5 _ _ _ _ ((rd_T31 t113 x6_1).f1) from ge119_1)
                                clear hv119_1 ge119_1
                                clear hcc119 hce119
                                have HR119_1 := Aside0.mk hi119_1
                                have HC119_1 := Aside0.mk hl119_1
                                clear hi119_1 hl119_1
                                replace p119 := eq_true p119
                                replace q119 := eq_true q119
                                have p120 : 0 ≤ (x6_1 : Int) := of_decide_eq_true (by first | (with_reducible assumption) | assumption)
                                have q120 : x6_1 < (t113.length : Int) := of_decide_eq_true (by first | (with_reducible assumption) | assumption)
                                obtain ⟨ad120, A120_1, c120_1, e120, hx120_0, hx120_1, hx120_2, hl120_1, hi120_1⟩ := at_T31 (Kd.S_reads' HO_4.out).2.2 x6_1 p120 q120
                                obtain rfl : ad119 = ad120 := (by injection e120)
                                obtain ⟨ce120, hce120, hMe120, hcc120⟩ := Kd.S_get HO_4.out z31 x6_1 p120 (by first | exact q120 | exact of_decide_eq_true (by first | (with_reducible assumption) | assumption) | (have e_ := (Kd.S_reads' HO_4.out).1; omega))
                                obtain ⟨ve120_1, rfl, ge120_1⟩ := k31_openM hMe120
                                have hv120_1 := hcc120 1 _ rfl
                                rw [add_field _ _ 1 (by omega)] at hv120_1
                                replace hv120_1 := Option.some.inj (hv120_1.symm.trans hx120_1)
                                rw [hv120_1] at ge120_1
                                have HL120_1 := Aside0.mk (show Kd.R (Kd.int .u8) 5 _ _ _ _ ((rd_T31 t113 x6_1).f1) from ge120_1)
                                clear hv120_1 ge120_1
                                clear hcc120 hce120
                                have HR120_1 := Aside0.mk hi120_1
                                have HC120_1 := Aside0.mk hl120_1
                                clear hi120_1 hl120_1
                                replace p120 := eq_true p120
                                replace q120 := eq_true q120
                                have ea_ := Option.some.inj (hx119_1.symm.trans hx120_1)
                                injection ea_ with ea_ en_ ec_
                                subst ea_
                                subst ec_
                                clear en_
                                have p121 : 0 ≤ (x7_3 : Int) := of_decide_eq_true (by first | (with_reducible assumption) | assumption)
                                have q121 : x7_3 < (((rd_T31 t113 x6_1).f1).length : Int) := of_decide_eq_true (by first | (with_reducible assumption) | assumption)
                                obtain ⟨ad121, e121, hx121_0⟩ := Kd.at_int (by repeat (first | (with_reducible exact HR120_1.out) | (with_reducible refine Kd.C_alloc ?_ _) | (with_reducible refine Kd.C_drewN ?_ _) | (with_reducible refine Kd.C_drew ?_) | exact HR120_1.out)) x7_3 p121 q121
                                cases e121
                                replace p121 := eq_true p121
                                replace q121 := eq_true q121
                                go_wp2
                                go_roundg k3
                                case measure => have := HK1.out; have := HJ9.out; have := HK3.out; omega
                                case rel => exact ⟨(wrap64 (x7_3 + 1)), (by first | rfl | (simp; done) | (simp [*]; done) | (simp; exact (by intro a b; cases a <;> cases b <;> rfl : ∀ a b : Bool, (a == b) = (!(a != b))) _ _)), H', ⟨by have := HK1.out; have := HJ9.out; have := HK3.out; omega⟩, ⟨by (with_reducible repeat (first | apply Kd.S_alloc | apply Kd.S_drewN | apply Kd.S_drew)); exact HO_4.out⟩, ⟨by (with_reducible repeat (first | apply Kd.R_alloc | apply Kd.R_drewN | apply Kd.R_drew)); exact HO_5.out⟩, ⟨by repeat (first | (with_reducible first | exact HB.out | apply below_alloc | apply pw_below_drewN | apply below_drew1) | exact HB.out)⟩⟩
                            · rw [if_neg c25] at H
                              exact absurd H (by simp)
                          · rw [if_neg c24] at H
                            have c24b0 : decide (x7_3 < (((rd_T31 t113 x6_1).f1).length : Int)) = false := decide_eq_false c24
                            clear c24
                            by_cases c27 : x5_1.length + ((rd_T31 t113 x6_1).f1).length < 140737488355328
                            · rw [if_pos c27] at H
                              have LMc27 := Aside0.mk c27
                              clear c27
                              obtain ⟨y123, hy123⟩ : ∃ y_ : List Int, y_ = (x5_1 ++ ((rd_T31 t113 x6_1).f1)) := ⟨_, rfl⟩
                              replace H : (if (rd_T31 t113 x6_1).f2 = true then (if y123.length < 140737488355328 then (seinelaw02_LinesBack.l0 k3 l0 t113 (y123 ++ [10]) (wrap64 (x6_1 + 1))) else (none)) else (seinelaw02_LinesBack.l0 k3 l0 t113 y123 (wrap64 (x6_1 + 1)))) = some r := by first | (rw [hy123]; with_reducible exact H) | (have H2_ := (Option.bind_some _ _).symm.trans H; rw [hy123]; with_reducible exact H2_) | (have H2_ := (Option.bind_some _ _).symm.trans H; with_reducible exact H2_) | with_reducible exact H | (rw [hy123]; exact H) | exact H
                              have Ny123 := Aside0.mk hy123
                              clear hy123
                              obtain ⟨bq28, hbq28⟩ : ∃ b_ : Bool, b_ = ((rd_T31 t113 x6_1).f2) := ⟨_, rfl⟩
                              replace H : (if bq28 = true then (if y123.length < 140737488355328 then (seinelaw02_LinesBack.l0 k3 l0 t113 (y123 ++ [10]) (wrap64 (x6_1 + 1))) else (none)) else (seinelaw02_LinesBack.l0 k3 l0 t113 y123 (wrap64 (x6_1 + 1)))) = some r := by rw [← hbq28] at H; exact H
                              have Nbq28 := Aside0.mk hbq28
                              clear hbq28
                              by_cases c29 : bq28 = true
                              · subst c29
                                have H1 : (if y123.length < 140737488355328 then (seinelaw02_LinesBack.l0 k3 l0 t113 (y123 ++ [10]) (wrap64 (x6_1 + 1))) else (none)) = some r := by rw [if_pos rfl] at H; exact H
                                clear H
                                have H := H1
                                clear H1
                                by_cases c30 : y123.length < 140737488355328
                                · rw [if_pos c30] at H
                                  have LMc30 := Aside0.mk c30
                                  clear c30
                                  obtain ⟨y127, hy127⟩ : ∃ y_ : List Int, y_ = (y123 ++ [10]) := ⟨_, rfl⟩
                                  replace H : (seinelaw02_LinesBack.l0 k3 l0 t113 y127 (wrap64 (x6_1 + 1))) = some r := by first | (rw [hy127]; with_reducible exact H) | (have H2_ := (Option.bind_some _ _).symm.trans H; rw [hy127]; with_reducible exact H2_) | (have H2_ := (Option.bind_some _ _).symm.trans H; with_reducible exact H2_) | with_reducible exact H | (rw [hy127]; exact H) | exact H
                                  have Ny127 := Aside0.mk hy127
                                  clear hy127
                                  have H' := Aside0.mk H
                                  clear H
                                  have p119 : 0 ≤ (x6_1 : Int) := of_decide_eq_true (by first | (with_reducible assumption) | assumption)
                                  have q119 : x6_1 < (t113.length : Int) := of_decide_eq_true (by first | (with_reducible assumption) | assumption)
                                  obtain ⟨ad119, A119_1, c119_1, e119, hx119_0, hx119_1, hx119_2, hl119_1, hi119_1⟩ := at_T31 (Kd.S_reads' HO_4.out).2.2 x6_1 p119 q119
                                  (try rw [← Nbq28.out] at hx119_2)
                                  cases e119
                                  obtain ⟨ce119, hce119, hMe119, hcc119⟩ := Kd.S_get HO_4.out z31 x6_1 p119 (by first | exact q119 | exact of_decide_eq_true (by first | (with_reducible assumption) | assumption) | (have e_ := (Kd.S_reads' HO_4.out).1; omega))
                                  obtain ⟨ve119_1, rfl, ge119_1⟩ := k31_openM hMe119
                                  have hv119_1 := hcc119 1 _ rfl
                                  rw [add_field _ _ 1 (by omega)] at hv119_1
                                  replace hv119_1 := Option.some.inj (hv119_1.symm.trans hx119_1)
                                  rw [hv119_1] at ge119_1
                                  have HL119_1 := Aside0.mk (show Kd.R (Kd.int .u8) 5 _ _ _ _ ((rd_T31 t113 x6_1).f1) from ge119_1)
                                  clear hv119_1 ge119_1
                                  clear hcc119 hce119
                                  have HR119_1 := Aside0.mk hi119_1
                                  have HC119_1 := Aside0.mk hl119_1
                                  clear hi119_1 hl119_1
                                  replace p119 := eq_true p119
                                  replace q119 := eq_true q119
                                  have p122 : 0 ≤ (x6_1 : Int) := of_decide_eq_true (by first | (with_reducible assumption) | assumption)
                                  have q122 : x6_1 < (t113.length : Int) := of_decide_eq_true (by first | (with_reducible assumption) | assumption)
                                  obtain ⟨ad122, A122_1, c122_1, e122, hx122_0, hx122_1, hx122_2, hl122_1, hi122_1⟩ := at_T31 (Kd.S_reads' HO_4.out).2.2 x6_1 p122 q122
                                  (try rw [← Nbq28.out] at hx122_2)
                                  obtain rfl : ad119 = ad122 := (by injection e122)
                                  obtain ⟨ce122, hce122, hMe122, hcc122⟩ := Kd.S_get HO_4.out z31 x6_1 p122 (by first | exact q122 | exact of_decide_eq_true (by first | (with_reducible assumption) | assumption) | (have e_ := (Kd.S_reads' HO_4.out).1; omega))
                                  obtain ⟨ve122_1, rfl, ge122_1⟩ := k31_openM hMe122
                                  have hv122_1 := hcc122 1 _ rfl
                                  rw [add_field _ _ 1 (by omega)] at hv122_1
                                  replace hv122_1 := Option.some.inj (hv122_1.symm.trans hx122_1)
                                  rw [hv122_1] at ge122_1
                                  have HL122_1 := Aside0.mk (show Kd.R (Kd.int .u8) 5 _ _ _ _ ((rd_T31 t113 x6_1).f1) from ge122_1)
                                  clear hv122_1 ge122_1
                                  clear hcc122 hce122
                                  have HR122_1 := Aside0.mk hi122_1
                                  have HC122_1 := Aside0.mk hl122_1
                                  clear hi122_1 hl122_1
                                  replace p122 := eq_true p122
                                  replace q122 := eq_true q122
                                  have ea_ := Option.some.inj (hx119_1.symm.trans hx122_1)
                                  injection ea_ with ea_ en_ ec_
                                  subst ea_
                                  subst ec_
                                  clear en_
                                  go_wp2_with (first | ((with_reducible refine gate_builtin (b := .append) (xs := #[.tmp 73, .tmp 78]) rfl ?_); (try (refine gate_guard (by rfl) ?_; dsimp only)); at_builtin; refine Kd.R_append_rows (Kd.int .u8) (w0 := w) w.heap.size rfl (.tmp 73) (.tmp 78) 22 5 (.int .u8 0) 1 rfl Try.underlying22 info5 rfl (by decide) (by omega) u5 x5_1 ((rd_T31 t113 x6_1).f1) _ _ _ (fun _ => True) (fun _ => False) rfl rfl ?aO ?aR (fun _ _ h => h) (fun _ h => h.elim) ?aF ?aB ?aS ?aL ?_; (case aR => repeat (first | exact (by repeat (first | (with_reducible exact HR122_1.out) | (with_reducible refine Kd.C_alloc ?_ _) | (with_reducible refine Kd.C_drewN ?_ _) | (with_reducible refine Kd.C_drew ?_) | exact HR122_1.out)) | (with_reducible refine Kd.C_alloc ?_ _) | (with_reducible refine Kd.C_drewN ?_ _) | (with_reducible refine Kd.C_drew ?_))); (case aB => exact (by repeat (first | (with_reducible first | exact HB.out | apply below_alloc | apply pw_below_drewN | apply below_drew1) | exact HB.out))); (case aF => exact (fun _ _ => trivial)); (case aO => exact (by (with_reducible repeat (first | apply Kd.R_alloc | apply Kd.R_drewN | apply Kd.R_drew)); exact HO_5.out)); (case aS => exact (below_size (by repeat (first | (with_reducible first | exact HB.out | apply below_alloc | apply pw_below_drewN | apply below_drew1) | exact HB.out)))); (case aL => have := LMc27.out; omega); intro v124 w31 ho hb hg hat; rw [← Ny123.out] at ho; have n0_ := Aside0.mk (Kd.S_after (ok := (fun _ => True)) (by (with_reducible repeat (first | apply Kd.S_alloc | apply Kd.S_drewN | apply Kd.S_drew)); exact Kd.S_mono HO_4.out (fun _ hk => ⟨trivial, hk⟩)) hg hat); have n1_ := Aside0.mk (Kd.R_after (ok := (fun k_ => some k_ ≠ (.slice (some ad119) t113.length co11 : Value).ownBlock)) (by (with_reducible repeat (first | apply Kd.R_alloc | apply Kd.R_drewN | apply Kd.R_drew)); exact Kd.R_mono HL119_1.out (fun _ hk => ⟨hk.2, hk.1⟩)) hg hat); have n2_ := Aside0.mk (Kd.R_after (ok := (fun k_ => some k_ ≠ (.slice (some ad119) t113.length co11 : Value).ownBlock)) (by (with_reducible repeat (first | apply Kd.R_alloc | apply Kd.R_drewN | apply Kd.R_drew)); exact Kd.R_mono HL122_1.out (fun _ hk => ⟨hk.2, hk.1⟩)) hg hat); have n3_ := Aside0.mk (hb); have n4_ := Aside0.mk (ho); clear HO_4; clear HL119_1; clear HL122_1; clear HB; clear HO_5; have HO_4 := n0_; have HL119_1 := n1_; have HL122_1 := n2_; have HB := n3_; have HO125 := n4_; clear n0_ n1_ n2_ n3_ n4_; clear ho hb hg hat; have p126 : 0 ≤ (x6_1 : Int) := of_decide_eq_true (by first | (with_reducible assumption) | assumption); have q126 : x6_1 < (t113.length : Int) := of_decide_eq_true (by first | (with_reducible assumption) | assumption); obtain ⟨ad126, A126_1, c126_1, e126, hx126_0, hx126_1, hx126_2, hl126_1, hi126_1⟩ := at_T31 (Kd.S_reads' HO_4.out).2.2 x6_1 p126 q126; (try rw [← Nbq28.out] at hx126_2); obtain rfl : ad119 = ad126 := (by injection e126); obtain ⟨ce126, hce126, hMe126, hcc126⟩ := Kd.S_get HO_4.out z31 x6_1 p126 (by first | exact q126 | exact of_decide_eq_true (by first | (with_reducible assumption) | assumption) | (have e_ := (Kd.S_reads' HO_4.out).1; omega)); obtain ⟨ve126_1, rfl, ge126_1⟩ := k31_openM hMe126; have hv126_1 := hcc126 1 _ rfl; rw [add_field _ _ 1 (by omega)] at hv126_1; replace hv126_1 := Option.some.inj (hv126_1.symm.trans hx126_1); rw [hv126_1] at ge126_1; have HL126_1 := Aside0.mk (show Kd.R (Kd.int .u8) 5 _ _ _ _ ((rd_T31 t113 x6_1).f1) from ge126_1); clear hv126_1 ge126_1; clear hcc126 hce126; have HR126_1 := Aside0.mk hi126_1; have HC126_1 := Aside0.mk hl126_1; clear hi126_1 hl126_1; replace p126 := eq_true p126; replace q126 := eq_true q126) | ((with_reducible refine gate_builtin (b := .append) (xs := #[.tmp 85, .tmp 86]) rfl ?_); (try (refine gate_guard (by rfl) ?_; dsimp only)); at_builtin; refine Kd.R_append (Kd.int .u8) (w0 := w) w.heap.size rfl (.tmp 85) (.tmp 86) 22 5 (.int .u8 0) 1 rfl Try.underlying22 info5 rfl (by decide) (by omega) v124 y123 10 [.int .u8 10] (fun _ => True) (fun _ => False) rfl rfl ?aP (fun _ hk => hk.elim) ?aF ?aO ?aB ?aS ?aL ?_; (case aP => exact rfl); (case aB => exact (by repeat (first | (with_reducible first | exact HB.out | apply below_alloc | apply pw_below_drewN | apply below_drew1) | exact HB.out))); (case aF => exact (fun _ _ => trivial)); (case aO => exact (by (with_reducible repeat (first | apply Kd.R_alloc | apply Kd.R_drewN | apply Kd.R_drew)); exact HO125.out)); (case aS => exact (below_size (by repeat (first | (with_reducible first | exact HB.out | apply below_alloc | apply pw_below_drewN | apply below_drew1) | exact HB.out)))); (case aL => have := LMc30.out; omega); intro v128 w32 ho hb hg hat; rw [← Ny127.out] at ho; have n0_ := Aside0.mk (Kd.S_after (ok := (fun _ => True)) (by (with_reducible repeat (first | apply Kd.S_alloc | apply Kd.S_drewN | apply Kd.S_drew)); exact HO_4.out) hg hat); have n1_ := Aside0.mk (Kd.R_after (ok := (fun k_ => some k_ ≠ (.slice (some ad119) t113.length co11 : Value).ownBlock)) (by (with_reducible repeat (first | apply Kd.R_alloc | apply Kd.R_drewN | apply Kd.R_drew)); exact HL119_1.out) hg hat); have n2_ := Aside0.mk (Kd.R_after (ok := (fun k_ => some k_ ≠ (.slice (some ad119) t113.length co11 : Value).ownBlock)) (by (with_reducible repeat (first | apply Kd.R_alloc | apply Kd.R_drewN | apply Kd.R_drew)); exact HL122_1.out) hg hat); have n3_ := Aside0.mk (Kd.R_after (ok := (fun k_ => some k_ ≠ (.slice (some ad119) t113.length co11 : Value).ownBlock)) (by (with_reducible repeat (first | apply Kd.R_alloc | apply Kd.R_drewN | apply Kd.R_drew)); exact Kd.R_mono HL126_1.out (fun _ hk => ⟨hk.2, hk.1.2⟩)) hg hat); have n4_ := Aside0.mk (hb); have n5_ := Aside0.mk (ho); clear HO_4; clear HL119_1; clear HL122_1; clear HL126_1; clear HB; clear HO125; have HO_4 := n0_; have HL119_1 := n1_; have HL122_1 := n2_; have HL126_1 := n3_; have HB := n4_; have HO129 := n5_; clear n0_ n1_ n2_ n3_ n4_ n5_; clear ho hb hg hat))
                                  go_roundg k3
                                  case measure => have := HK1.out; have := HJ9.out; have := HK3.out; omega
                                  case rel => exact ⟨(y127), (wrap64 (x6_1 + 1)), (by first | rfl | (simp; done) | (simp [*]; done) | (simp; exact (by intro a b; cases a <;> cases b <;> rfl : ∀ a b : Bool, (a == b) = (!(a != b))) _ _)), H', ⟨by have := HK1.out; have := HJ9.out; have := HK3.out; omega⟩, ⟨by (with_reducible repeat (first | apply Kd.S_alloc | apply Kd.S_drewN | apply Kd.S_drew)); exact Kd.S_mono HO_4.out (fun _ hk => hk.2)⟩, ⟨by (with_reducible repeat (first | apply Kd.R_alloc | apply Kd.R_drewN | apply Kd.R_drew)); exact HO129.out⟩, ⟨by repeat (first | (with_reducible first | exact HB.out | apply below_alloc | apply pw_below_drewN | apply below_drew1) | exact HB.out)⟩⟩
                                · rw [if_neg c30] at H
                                  exact absurd H (by simp)
                              · replace c29 := Bool.eq_false_iff.mpr c29
                                subst c29
                                have H1 : (seinelaw02_LinesBack.l0 k3 l0 t113 y123 (wrap64 (x6_1 + 1))) = some r := by rw [if_neg (show ¬ (false = true) by decide)] at H; exact H
                                clear H
                                have H := H1
                                clear H1
                                have H' := Aside0.mk H
                                clear H
                                have p119 : 0 ≤ (x6_1 : Int) := of_decide_eq_true (by first | (with_reducible assumption) | assumption)
                                have q119 : x6_1 < (t113.length : Int) := of_decide_eq_true (by first | (with_reducible assumption) | assumption)
                                obtain ⟨ad119, A119_1, c119_1, e119, hx119_0, hx119_1, hx119_2, hl119_1, hi119_1⟩ := at_T31 (Kd.S_reads' HO_4.out).2.2 x6_1 p119 q119
                                (try rw [← Nbq28.out] at hx119_2)
                                cases e119
                                obtain ⟨ce119, hce119, hMe119, hcc119⟩ := Kd.S_get HO_4.out z31 x6_1 p119 (by first | exact q119 | exact of_decide_eq_true (by first | (with_reducible assumption) | assumption) | (have e_ := (Kd.S_reads' HO_4.out).1; omega))
                                obtain ⟨ve119_1, rfl, ge119_1⟩ := k31_openM hMe119
                                have hv119_1 := hcc119 1 _ rfl
                                rw [add_field _ _ 1 (by omega)] at hv119_1
                                replace hv119_1 := Option.some.inj (hv119_1.symm.trans hx119_1)
                                rw [hv119_1] at ge119_1
                                have HL119_1 := Aside0.mk (show Kd.R (Kd.int .u8) 5 _ _ _ _ ((rd_T31 t113 x6_1).f1) from ge119_1)
                                clear hv119_1 ge119_1
                                clear hcc119 hce119
                                have HR119_1 := Aside0.mk hi119_1
                                have HC119_1 := Aside0.mk hl119_1
                                clear hi119_1 hl119_1
                                replace p119 := eq_true p119
                                replace q119 := eq_true q119
                                have p122 : 0 ≤ (x6_1 : Int) := of_decide_eq_true (by first | (with_reducible assumption) | assumption)
                                have q122 : x6_1 < (t113.length : Int) := of_decide_eq_true (by first | (with_reducible assumption) | assumption)
                                obtain ⟨ad122, A122_1, c122_1, e122, hx122_0, hx122_1, hx122_2, hl122_1, hi122_1⟩ := at_T31 (Kd.S_reads' HO_4.out).2.2 x6_1 p122 q122
                                (try rw [← Nbq28.out] at hx122_2)
                                obtain rfl : ad119 = ad122 := (by injection e122)
                                obtain ⟨ce122, hce122, hMe122, hcc122⟩ := Kd.S_get HO_4.out z31 x6_1 p122 (by first | exact q122 | exact of_decide_eq_true (by first | (with_reducible assumption) | assumption) | (have e_ := (Kd.S_reads' HO_4.out).1; omega))
                                obtain ⟨ve122_1, rfl, ge122_1⟩ := k31_openM hMe122
                                have hv122_1 := hcc122 1 _ rfl
                                rw [add_field _ _ 1 (by omega)] at hv122_1
                                replace hv122_1 := Option.some.inj (hv122_1.symm.trans hx122_1)
                                rw [hv122_1] at ge122_1
                                have HL122_1 := Aside0.mk (show Kd.R (Kd.int .u8) 5 _ _ _ _ ((rd_T31 t113 x6_1).f1) from ge122_1)
                                clear hv122_1 ge122_1
                                clear hcc122 hce122
                                have HR122_1 := Aside0.mk hi122_1
                                have HC122_1 := Aside0.mk hl122_1
                                clear hi122_1 hl122_1
                                replace p122 := eq_true p122
                                replace q122 := eq_true q122
                                have ea_ := Option.some.inj (hx119_1.symm.trans hx122_1)
                                injection ea_ with ea_ en_ ec_
                                subst ea_
                                subst ec_
                                clear en_
                                go_wp2_with (first | ((with_reducible refine gate_builtin (b := .append) (xs := #[.tmp 73, .tmp 78]) rfl ?_); (try (refine gate_guard (by rfl) ?_; dsimp only)); at_builtin; refine Kd.R_append_rows (Kd.int .u8) (w0 := w) w.heap.size rfl (.tmp 73) (.tmp 78) 22 5 (.int .u8 0) 1 rfl Try.underlying22 info5 rfl (by decide) (by omega) u5 x5_1 ((rd_T31 t113 x6_1).f1) _ _ _ (fun _ => True) (fun _ => False) rfl rfl ?aO ?aR (fun _ _ h => h) (fun _ h => h.elim) ?aF ?aB ?aS ?aL ?_; (case aR => repeat (first | exact (by repeat (first | (with_reducible exact HR122_1.out) | (with_reducible refine Kd.C_alloc ?_ _) | (with_reducible refine Kd.C_drewN ?_ _) | (with_reducible refine Kd.C_drew ?_) | exact HR122_1.out)) | (with_reducible refine Kd.C_alloc ?_ _) | (with_reducible refine Kd.C_drewN ?_ _) | (with_reducible refine Kd.C_drew ?_))); (case aB => exact (by repeat (first | (with_reducible first | exact HB.out | apply below_alloc | apply pw_below_drewN | apply below_drew1) | exact HB.out))); (case aF => exact (fun _ _ => trivial)); (case aO => exact (by (with_reducible repeat (first | apply Kd.R_alloc | apply Kd.R_drewN | apply Kd.R_drew)); exact HO_5.out)); (case aS => exact (below_size (by repeat (first | (with_reducible first | exact HB.out | apply below_alloc | apply pw_below_drewN | apply below_drew1) | exact HB.out)))); (case aL => have := LMc27.out; omega); intro v124 w33 ho hb hg hat; rw [← Ny123.out] at ho; have n0_ := Aside0.mk (Kd.S_after (ok := (fun _ => True)) (by (with_reducible repeat (first | apply Kd.S_alloc | apply Kd.S_drewN | apply Kd.S_drew)); exact Kd.S_mono HO_4.out (fun _ hk => ⟨trivial, hk⟩)) hg hat); have n1_ := Aside0.mk (Kd.R_after (ok := (fun k_ => some k_ ≠ (.slice (some ad119) t113.length co11 : Value).ownBlock)) (by (with_reducible repeat (first | apply Kd.R_alloc | apply Kd.R_drewN | apply Kd.R_drew)); exact Kd.R_mono HL119_1.out (fun _ hk => ⟨hk.2, hk.1⟩)) hg hat); have n2_ := Aside0.mk (Kd.R_after (ok := (fun k_ => some k_ ≠ (.slice (some ad119) t113.length co11 : Value).ownBlock)) (by (with_reducible repeat (first | apply Kd.R_alloc | apply Kd.R_drewN | apply Kd.R_drew)); exact Kd.R_mono HL122_1.out (fun _ hk => ⟨hk.2, hk.1⟩)) hg hat); have n3_ := Aside0.mk (hb); have n4_ := Aside0.mk (ho); clear HO_4; clear HL119_1; clear HL122_1; clear HB; clear HO_5; have HO_4 := n0_; have HL119_1 := n1_; have HL122_1 := n2_; have HB := n3_; have HO125 := n4_; clear n0_ n1_ n2_ n3_ n4_; clear ho hb hg hat; have p126 : 0 ≤ (x6_1 : Int) := of_decide_eq_true (by first | (with_reducible assumption) | assumption); have q126 : x6_1 < (t113.length : Int) := of_decide_eq_true (by first | (with_reducible assumption) | assumption); obtain ⟨ad126, A126_1, c126_1, e126, hx126_0, hx126_1, hx126_2, hl126_1, hi126_1⟩ := at_T31 (Kd.S_reads' HO_4.out).2.2 x6_1 p126 q126; (try rw [← Nbq28.out] at hx126_2); obtain rfl : ad119 = ad126 := (by injection e126); obtain ⟨ce126, hce126, hMe126, hcc126⟩ := Kd.S_get HO_4.out z31 x6_1 p126 (by first | exact q126 | exact of_decide_eq_true (by first | (with_reducible assumption) | assumption) | (have e_ := (Kd.S_reads' HO_4.out).1; omega)); obtain ⟨ve126_1, rfl, ge126_1⟩ := k31_openM hMe126; have hv126_1 := hcc126 1 _ rfl; rw [add_field _ _ 1 (by omega)] at hv126_1; replace hv126_1 := Option.some.inj (hv126_1.symm.trans hx126_1); rw [hv126_1] at ge126_1; have HL126_1 := Aside0.mk (show Kd.R (Kd.int .u8) 5 _ _ _ _ ((rd_T31 t113 x6_1).f1) from ge126_1); clear hv126_1 ge126_1; clear hcc126 hce126; have HR126_1 := Aside0.mk hi126_1; have HC126_1 := Aside0.mk hl126_1; clear hi126_1 hl126_1; replace p126 := eq_true p126; replace q126 := eq_true q126))
                                go_roundg k3
                                case measure => have := HK1.out; have := HJ9.out; have := HK3.out; omega
                                case rel => exact ⟨(y123), (wrap64 (x6_1 + 1)), (by first | rfl | (simp; done) | (simp [*]; done) | (simp; exact (by intro a b; cases a <;> cases b <;> rfl : ∀ a b : Bool, (a == b) = (!(a != b))) _ _)), H', ⟨by have := HK1.out; have := HJ9.out; have := HK3.out; omega⟩, ⟨by (with_reducible repeat (first | apply Kd.S_alloc | apply Kd.S_drewN | apply Kd.S_drew)); exact Kd.S_mono HO_4.out (fun _ hk => hk.2)⟩, ⟨by (with_reducible repeat (first | apply Kd.R_alloc | apply Kd.R_drewN | apply Kd.R_drew)); exact HO125.out⟩, ⟨by repeat (first | (with_reducible first | exact HB.out | apply below_alloc | apply pw_below_drewN | apply below_drew1) | exact HB.out)⟩⟩
                            · rw [if_neg c27] at H
                              exact absurd H (by simp)
                        · rw [if_neg c23] at H
                          exact absurd H (by simp)
                      · rw [if_neg c22] at H
                        exact absurd H (by simp)
          · rw [if_neg c9] at H
            have c9b0 : decide (x6_1 < (t113.length : Int)) = false := decide_eq_false c9
            clear c9
            obtain rfl := Option.some.inj H
            obtain ⟨Ao34, co34, eo34⟩ := Kd.S_slice HO_4.out
            subst eo34
            have hcv35 := own_string (P := Try.prog) Try.underlying22 Try.underlying5 Try.underlying9 (Kd.own_of_R HO_5.out)
            have hcv36 := Kd.C_string (P := Try.prog) (A := A0) (c := c0) Try.underlying22 Try.underlying5 Try.underlying9 (Kd.C_below HR0.out HB.out)
            go_wp2
            go_ret
            exact ⟨by first | rfl | (simp [errW_none, errW_some] <;> rfl) | (simp [*, errW_none, errW_some] <;> rfl), by repeat (first | (with_reducible first | exact HB.out | apply below_alloc | apply pw_below_drewN | apply below_drew1) | exact HB.out)⟩
  · replace c3 := Bool.eq_false_iff.mpr c3
    subst c3
    have H1 : (none) = some r := by rw [if_neg (show ¬ (false = true) by decide)] at H; exact H
    clear H
    have H := H1
    clear H1
    exact absurd H (by simp)

/-- THE ONE PURE STATEMENT of seinelaw02_LinesBack: yours. -/
def seinelaw02_LinesBack.Pure : Prop := ∀ (l0 : List Int), l0.length ≤ maxLen → l0.length * 1 ≤ 140737488351232 → (∀ x ∈ l0, (Lit.int .u8 x).wf = true) → ∃ k, seinelaw02_LinesBack.f k l0 = some true
theorem seinelaw02_LinesBack.walk (P : seinelaw02_LinesBack.Pure) (a0 : Option Addr) (len0 cap0 : Nat) (z0 : List Int) (w : World) (w0 : (a0 = none ∧ len0 = 0 ∧ cap0 = 0 ∧ z0 = []) ∨ ∃ x, a0 = some x ∧ len0 ≤ cap0 ∧ cap0 ≤ maxLen ∧ z0.length = cap0 ∧ (∀ i, i < z0.length → w.cell? (x.add i) = some (.int .u8 (z0.getD i 0))) ∧ ∀ n ∈ z0, (Lit.int .u8 n).wf = true) (y0 : len0 * 1 ≤ 140737488351232) :
    Calls Try.prog 5 #[.slice a0 len0 cap0] w fun e w' => e = .returned (.bool true) ∧ Below w.heap.size w w' := by
  obtain ⟨l0, rfl, hr0, hm0, hw0, hc0⟩ := ReadsInt.ofRowC w0
  obtain ⟨k, h⟩ := P l0 hm0 y0 hw0
  refine (seinelaw02_LinesBack.calls k _ _ l0 true w (Kd.C_of_reads (d := (0 : Int)) (h1 := fun _ => rfl) hr0) hc0 h).mono ?_
  rintro e w' ⟨rfl, hd⟩
  exact ⟨rfl, hd⟩

end Go.Proofs.Ytccpobbebfgpbaa.PLinesBack
