/- Functions of the translation and what they come to: laid by a program of this session (xprint.py) beside contracts proved by hand. No condition. -/
import Derived.Test.YtaegjpabkkoleaaPFoldJoinsx0
import Derived.Test.YtaegjpabkkoleaaPFoldJoinsx1
import Derived.Test.YtaegjpabkkoleaaPFoldJoinsx2
import Derived.Test.YtaegjpabkkoleaaPFoldJoinsx3
namespace Go.Proofs.Ytaegjpabkkoleaa.PFoldJoins
open Go.RowKit Go.Proofs.YtaegjpabkkoleaaW.PrintWords Go.Proofs.YtaegjpabkkoleaaW.PrintLast Go.Proofs.YtaegjpabkkoleaaW.PrintMore
attribute [local go_sem] max2_int min2_int max_two min_two max_three min_three max_four min_four   -- for this text's walks alone
set_option linter.unusedVariables false
set_option linter.unusedSimpArgs false

attribute [local go_sem high] eqA31
/-! ### seinelaw01_FoldJoins: function 6 -/
def seinelaw01_FoldJoins.j0 : Nat → List Int → List Int → Bool → Option (Bool)
  | 0, _, _, _ => none
  | k + 1, x0, x1, x20 => if x20 = true then (some true) else ((fold_Of.f x0).bind fun bt103 => ((fold_Of.f x1).bind fun bt108 => (if ([] : List Int).length + x0.length < 140737488355328 then ((some (([] : List Int) ++ x0 : List Int)).bind fun y113 => (if y113.length + x1.length < 140737488355328 then ((some (y113 ++ x1 : List Int)).bind fun y116 => (if y116.length + x0.length < 140737488355328 then ((fold_Set_Union.f bt103.1 bt103.2.1 bt103.2.2.1 bt103.2.2.2 bt108.1 bt108.2.1 bt108.2.2.1 bt108.2.2.2).bind fun bt122 => ((fold_Of.f (y116 ++ x0)).bind fun bt127 => (if (bt127.1 == bt122.1 && (bt127.2.1 == bt122.2.1 && (bt127.2.2.1 == bt122.2.2.1 && (bt127.2.2.2 == bt122.2.2.2)))) = true then ((fold_Set_Union.f bt108.1 bt108.2.1 bt108.2.2.1 bt108.2.2.2 bt103.1 bt103.2.1 bt103.2.2.1 bt103.2.2.2).bind fun bt131 => (if (bt131.1 == bt122.1 && (bt131.2.1 == bt122.2.1 && (bt131.2.2.1 == bt122.2.2.1 && (bt131.2.2.2 == bt122.2.2.2)))) = true then ((fold_Set_Union.f bt122.1 bt122.2.1 bt122.2.2.1 bt122.2.2.2 bt122.1 bt122.2.1 bt122.2.2.1 bt122.2.2.2).bind fun bt135 => (if (bt135.1 == bt122.1 && (bt135.2.1 == bt122.2.1 && (bt135.2.2.1 == bt122.2.2.1 && (bt135.2.2.2 == bt122.2.2.2)))) = true then ((fold_Set_Len.f bt122.1 bt122.2.1 bt122.2.2.1 bt122.2.2.2).bind fun t139 => ((fold_Set_Len.f bt103.1 bt103.2.1 bt103.2.2.1 bt103.2.2.2).bind fun t140 => ((fold_Set_Len.f bt108.1 bt108.2.1 bt108.2.2.1 bt108.2.2.2).bind fun t141 => (if t139 ≤ (wrap64 (t140 + t141)) then ((fold_Set_Len.f bt122.1 bt122.2.1 bt122.2.2.1 bt122.2.2.2).bind fun t142 => ((fold_Set_Len.f bt103.1 bt103.2.1 bt103.2.2.1 bt103.2.2.2).bind fun t143 => ((fold_Set_Len.f bt108.1 bt108.2.1 bt108.2.2.1 bt108.2.2.2).bind fun t144 => (some (decide (t142 ≥ (mx t143 t144))))))) else (none))))) else (none))) else (none))) else (none)))) else (none))) else (none))) else (none))))
def seinelaw01_FoldJoins.f (k : Nat) (l0 : List Int) (l1 : List Int) : Option (Bool) := (seinelaw01_awake.f).bind fun t102 => (if t102 = true then (if (l0.length : Int) > 300 then (seinelaw01_FoldJoins.j0 k l0 l1 true) else (seinelaw01_FoldJoins.j0 k l0 l1 (decide ((l1.length : Int) > 300)))) else (none))
theorem seinelaw01_FoldJoins.mono_l : ∀ k, (∀ y0 y1 y2, LeO (seinelaw01_FoldJoins.j0 k y0 y1 y2) (seinelaw01_FoldJoins.j0 (k + 1) y0 y1 y2))
  | 0 => fun _ _ _ r h => by simp [seinelaw01_FoldJoins.j0] at h
  | k + 1 => by
    have ih0 := seinelaw01_FoldJoins.mono_l k
    · intro y0 y1 y2
      unfold seinelaw01_FoldJoins.j0
      repeat' first
      | (with_reducible exact ih0 _ _ _)
      | (with_reducible exact LeO.refl _)
      | (with_reducible exact LeO.none _)
      | (with_reducible refine LeO.ite ?_ ?_)
      | (with_reducible refine LeO.bind ?_ (fun _ => ?_))
      | exact ih0 _ _ _
      | exact LeO.none _
      | refine LeO.ite ?_ ?_
      | refine LeO.bind ?_ (fun _ => ?_)
theorem seinelaw01_FoldJoins.mono : ∀ a0 a1 k, LeO (seinelaw01_FoldJoins.f k a0 a1) (seinelaw01_FoldJoins.f (k + 1) a0 a1) := by
  intro a0 a1 k
  have ih0 := seinelaw01_FoldJoins.mono_l k
  unfold seinelaw01_FoldJoins.f
  repeat' first
      | (with_reducible exact ih0 _ _ _)
      | (with_reducible exact LeO.refl _)
      | (with_reducible exact LeO.none _)
      | (with_reducible refine LeO.ite ?_ ?_)
      | (with_reducible refine LeO.bind ?_ (fun _ => ?_))
      | exact ih0 _ _ _
      | exact LeO.none _
      | refine LeO.ite ?_ ?_
      | refine LeO.bind ?_ (fun _ => ?_)
def seinelaw01_FoldJoins.T13 : Bool × List (List Nat × List Nat) := (true, [([], []), ([0], [0]), ([], []), ([1, 2], [1, 2]), ([3, 1], [3]), ([4], [4]), ([4], [4]), ([5, 6, 4, 4], [4, 5, 6]), ([4], [4]), ([7, 8, 4], [4, 7, 8]), ([4, 9], [4, 9]), ([10, 7], [10]), ([11], [11]), ([11], [11]), ([12, 13, 11, 11], [11, 12, 13]), ([11], [11]), ([14, 15, 11], [11, 14, 15]), ([11, 16], [11, 16]), ([17, 14], [17]), ([18], [18]), ([19, 18, 18], [18, 19]), ([18], [18]), ([21, 20, 18], [18, 21]), ([18], [18]), ([23, 22, 18], [18, 23]), ([22, 24, 18], [18, 22, 24]), ([20, 25, 18], [18, 20, 25]), ([18, 26], [18, 26]), ([27, 24], [27]), ([28], [28]), ([29, 28, 28], [28, 29]), ([28], [28]), ([31, 30, 28], [28, 31]), ([28], [28]), ([33, 32, 28], [28, 33]), ([32, 34, 28], [28, 32, 34]), ([30, 35, 28], [28, 30, 35]), ([28, 36], [28, 36]), ([37, 34, 0, 1, 2, 3, 4, 5, 6, 7, 8, 9, 10, 11, 12, 13, 14, 15, 16, 17, 18, 19, 20, 21, 22, 23, 24, 25, 26, 27, 28, 29, 30, 31, 32, 33, 34, 35, 36, 37], [37])])
def seinelaw01_FoldJoins.B13 : List Nat := [0, 1, 0, 7, 15, 31, 31, 127, 31, 511, 1023, 2047, 4095, 4095, 16383, 4095, 65535, 131071, 262143, 524287, 1048575, 524287, 4194303, 524287, 16777215, 33554431, 67108863, 134217727, 268435455, 536870911, 1073741823, 536870911, 4294967295, 536870911, 17179869183, 34359738367, 68719476735, 137438953471, 274877906943]
theorem seinelaw01_FoldJoins.tab13 : rtab .any (opsOf Try.f6 13) = seinelaw01_FoldJoins.T13 := by kernel_rfl
theorem seinelaw01_FoldJoins.bits13 : waitsOk seinelaw01_FoldJoins.T13.2 seinelaw01_FoldJoins.B13 = true := by kernel_rfl
set_option maxHeartbeats 8000000 in
set_option maxRecDepth 100000 in
theorem seinelaw01_FoldJoins.calls (k : Nat) (A0 : Option Addr) (c0 : Nat) (l0 : List Int) (A1 : Option Addr) (c1 : Nat) (l1 : List Int) (r : Bool) (w : World) (hr0 : Kd.C (Kd.int .u8) w A0 l0.length l0) (hc0 : l0.length ≤ c0) (hr1 : Kd.C (Kd.int .u8) w A1 l1.length l1) (hc1 : l1.length ≤ c1) (h : seinelaw01_FoldJoins.f k l0 l1 = some r) :
    Calls Try.prog 6 #[.slice A0 l0.length c0, .slice A1 l1.length c1] w fun e w' => e = .returned (.bool r) ∧ Below w.heap.size w w' := by
  have hu31 := Try.underlying31
  have HR0 := Aside0.mk hr0
  have HC0 := Aside0.mk hc0
  clear hr0 hc0
  have HR1 := Aside0.mk hr1
  have HC1 := Aside0.mk hc1
  clear hr1 hc1
  have HB := Aside0.mk (Below.refl w.heap.size w)
  have H : ((seinelaw01_awake.f).bind fun t102 => (if t102 = true then (if (l0.length : Int) > 300 then (seinelaw01_FoldJoins.j0 k l0 l1 true) else (seinelaw01_FoldJoins.j0 k l0 l1 (decide ((l1.length : Int) > 300)))) else (none))) = some r := h
  clear h
  replace H := Option.bind_eq_some_iff.mp H
  obtain ⟨t102, A30, H⟩ := H
  replace H : (if t102 = true then (if (l0.length : Int) > 300 then (seinelaw01_FoldJoins.j0 k l0 l1 true) else (seinelaw01_FoldJoins.j0 k l0 l1 (decide ((l1.length : Int) > 300)))) else (none)) = some r := H
  have A3 := Aside0.mk A30
  clear A30
  by_cases c4 : t102 = true
  · subst c4
    have H1 : (if (l0.length : Int) > 300 then (seinelaw01_FoldJoins.j0 k l0 l1 true) else (seinelaw01_FoldJoins.j0 k l0 l1 (decide ((l1.length : Int) > 300)))) = some r := by rw [if_pos rfl] at H; exact H
    clear H
    have H := H1
    clear H1
    have HC5 := Aside0.mk H
    clear H
    go_enter Try.func6, Try.ntmps6
    go_upto_region 4 with (first | ((with_reducible refine gate_callee (f := 9) rfl ?_); refine goesL_ (some 10) rfl rfl Try.func9 (by kernel_rfl) rfl #[] rfl (by (try simp only [List.map_toArray, List.map_cons, List.map_nil]); first | done | rfl | (simp only [List.length_drop, List.length_take]; rfl)) ?_; (with_reducible refine (seinelaw01_awake.calls  true _ A3.out).mono ?_); rintro e w6 ⟨rfl, hb⟩; refine ⟨_, rfl, ?_⟩; have n0_ := Aside0.mk (below_step (by repeat (first | (with_reducible first | exact HB.out | apply below_alloc | apply pw_below_drewN | apply below_drew1) | exact HB.out)) hb); clear HB; have HB := n0_; clear n0_; (try clear hb); (try clear hb2); (try clear hk); (try clear hi)))
    (try simp only [Act.put, List.setIfInBounds_toArray, List.set_cons_zero, List.set_cons_succ])
    go_cut [20] (fun v20 wc => ∃ (kq : Nat) (x20_4 : Bool), v20 = .bool x20_4 ∧ Aside0 (seinelaw01_FoldJoins.j0 kq l0 l1 x20_4 = some r) ∧ Aside0 (kq ≤ k) ∧ Aside0 (Below w.heap.size w wc))
    case first =>
      have H := HC5.out
      clear HC5
      by_cases c7 : (l0.length : Int) > 300
      · rw [if_pos c7] at H
        have c7b0 : decide (300 < (l0.length : Int)) = true := decide_eq_true c7
        have c7b1 : decide (300 < l0.length) = true := decide_eq_true (by omega)
        clear c7
        (first | rw [c7b0] | (simp only [i64_w, i32_w]; rw [c7b0]) | skip)
        have H' := Aside0.mk H
        clear H
        go_wp2
        go_meet
        case rel => exact ⟨_, (true), (by first | rfl | (simp; done) | (simp [*]; done) | (simp; exact (by intro a b; cases a <;> cases b <;> rfl : ∀ a b : Bool, (a == b) = (!(a != b))) _ _)), H', ⟨by first | omega | exact Nat.le_refl _⟩, ⟨by repeat (first | (with_reducible first | exact HB.out | apply below_alloc | apply pw_below_drewN | apply below_drew1) | exact HB.out)⟩⟩
      · rw [if_neg c7] at H
        have c7b0 : decide (300 < (l0.length : Int)) = false := decide_eq_false c7
        have c7b1 : decide (300 < l0.length) = false := decide_eq_false (by omega)
        clear c7
        (first | rw [c7b0] | (simp only [i64_w, i32_w]; rw [c7b0]) | skip)
        have H' := Aside0.mk H
        clear H
        go_wp2
        go_meet
        case rel => exact ⟨_, (decide ((l1.length : Int) > 300)), (by first | rfl | (simp; done) | (simp [*]; done) | (simp; exact (by intro a b; cases a <;> cases b <;> rfl : ∀ a b : Bool, (a == b) = (!(a != b))) _ _)), H', ⟨by first | omega | exact Nat.le_refl _⟩, ⟨by repeat (first | (with_reducible first | exact HB.out | apply below_alloc | apply pw_below_drewN | apply below_drew1) | exact HB.out)⟩⟩
    case rest =>
      clear HC5
      try clear c1
      try clear p2
      try clear c4
      try clear c6
      try clear c7
      try clear c7b0
      try clear c7b1
      obtain ⟨kq, x20_4, rfl, HA, HJ4, HB⟩ := hcut
      cases kq with
      | zero => exact absurd HA.out (by simp [seinelaw01_FoldJoins.j0])
      | succ kj4 =>
        have H := HA.out
        clear HA
        simp only [seinelaw01_FoldJoins.j0] at H
        by_cases c8 : x20_4 = true
        · subst c8
          have H1 : (some true) = some r := by rw [if_pos rfl] at H; exact H
          clear H
          have H := H1
          clear H1
          obtain rfl := Option.some.inj H
          go_wp2
          go_ret
          exact ⟨by first | rfl | (simp [errW_none, errW_some] <;> rfl) | (simp [*, errW_none, errW_some] <;> rfl), by repeat (first | (with_reducible first | exact HB.out | apply below_alloc | apply pw_below_drewN | apply below_drew1) | exact HB.out)⟩
        · replace c8 := Bool.eq_false_iff.mpr c8
          subst c8
          have H1 : ((fold_Of.f l0).bind fun bt103 => ((fold_Of.f l1).bind fun bt108 => (if ([] : List Int).length + l0.length < 140737488355328 then ((some (([] : List Int) ++ l0 : List Int)).bind fun y113 => (if y113.length + l1.length < 140737488355328 then ((some (y113 ++ l1 : List Int)).bind fun y116 => (if y116.length + l0.length < 140737488355328 then ((fold_Set_Union.f bt103.1 bt103.2.1 bt103.2.2.1 bt103.2.2.2 bt108.1 bt108.2.1 bt108.2.2.1 bt108.2.2.2).bind fun bt122 => ((fold_Of.f (y116 ++ l0)).bind fun bt127 => (if (bt127.1 == bt122.1 && (bt127.2.1 == bt122.2.1 && (bt127.2.2.1 == bt122.2.2.1 && (bt127.2.2.2 == bt122.2.2.2)))) = true then ((fold_Set_Union.f bt108.1 bt108.2.1 bt108.2.2.1 bt108.2.2.2 bt103.1 bt103.2.1 bt103.2.2.1 bt103.2.2.2).bind fun bt131 => (if (bt131.1 == bt122.1 && (bt131.2.1 == bt122.2.1 && (bt131.2.2.1 == bt122.2.2.1 && (bt131.2.2.2 == bt122.2.2.2)))) = true then ((fold_Set_Union.f bt122.1 bt122.2.1 bt122.2.2.1 bt122.2.2.2 bt122.1 bt122.2.1 bt122.2.2.1 bt122.2.2.2).bind fun bt135 => (if (bt135.1 == bt122.1 && (bt135.2.1 == bt122.2.1 && (bt135.2.2.1 == bt122.2.2.1 && (bt135.2.2.2 == bt122.2.2.2)))) = true then ((fold_Set_Len.f bt122.1 bt122.2.1 bt122.2.2.1 bt122.2.2.2).bind fun t139 => ((fold_Set_Len.f bt103.1 bt103.2.1 bt103.2.2.1 bt103.2.2.2).bind fun t140 => ((fold_Set_Len.f bt108.1 bt108.2.1 bt108.2.2.1 bt108.2.2.2).bind fun t141 => (if t139 ≤ (wrap64 (t140 + t141)) then ((fold_Set_Len.f bt122.1 bt122.2.1 bt122.2.2.1 bt122.2.2.2).bind fun t142 => ((fold_Set_Len.f bt103.1 bt103.2.1 bt103.2.2.1 bt103.2.2.2).bind fun t143 => ((fold_Set_Len.f bt108.1 bt108.2.1 bt108.2.2.1 bt108.2.2.2).bind fun t144 => (some (decide (t142 ≥ (mx t143 t144))))))) else (none))))) else (none))) else (none))) else (none)))) else (none))) else (none))) else (none)))) = some r := by rw [if_neg (show ¬ (false = true) by decide)] at H; exact H
          clear H
          have H := H1
          clear H1
          replace H := Option.bind_eq_some_iff.mp H
          obtain ⟨⟨t103, t104, t105, t106⟩, A90, H⟩ := H
          replace H : ((fold_Of.f l1).bind fun bt108 => (if ([] : List Int).length + l0.length < 140737488355328 then ((some (([] : List Int) ++ l0 : List Int)).bind fun y113 => (if y113.length + l1.length < 140737488355328 then ((some (y113 ++ l1 : List Int)).bind fun y116 => (if y116.length + l0.length < 140737488355328 then ((fold_Set_Union.f t103 t104 t105 t106 bt108.1 bt108.2.1 bt108.2.2.1 bt108.2.2.2).bind fun bt122 => ((fold_Of.f (y116 ++ l0)).bind fun bt127 => (if (bt127.1 == bt122.1 && (bt127.2.1 == bt122.2.1 && (bt127.2.2.1 == bt122.2.2.1 && (bt127.2.2.2 == bt122.2.2.2)))) = true then ((fold_Set_Union.f bt108.1 bt108.2.1 bt108.2.2.1 bt108.2.2.2 t103 t104 t105 t106).bind fun bt131 => (if (bt131.1 == bt122.1 && (bt131.2.1 == bt122.2.1 && (bt131.2.2.1 == bt122.2.2.1 && (bt131.2.2.2 == bt122.2.2.2)))) = true then ((fold_Set_Union.f bt122.1 bt122.2.1 bt122.2.2.1 bt122.2.2.2 bt122.1 bt122.2.1 bt122.2.2.1 bt122.2.2.2).bind fun bt135 => (if (bt135.1 == bt122.1 && (bt135.2.1 == bt122.2.1 && (bt135.2.2.1 == bt122.2.2.1 && (bt135.2.2.2 == bt122.2.2.2)))) = true then ((fold_Set_Len.f bt122.1 bt122.2.1 bt122.2.2.1 bt122.2.2.2).bind fun t139 => ((fold_Set_Len.f t103 t104 t105 t106).bind fun t140 => ((fold_Set_Len.f bt108.1 bt108.2.1 bt108.2.2.1 bt108.2.2.2).bind fun t141 => (if t139 ≤ (wrap64 (t140 + t141)) then ((fold_Set_Len.f bt122.1 bt122.2.1 bt122.2.2.1 bt122.2.2.2).bind fun t142 => ((fold_Set_Len.f t103 t104 t105 t106).bind fun t143 => ((fold_Set_Len.f bt108.1 bt108.2.1 bt108.2.2.1 bt108.2.2.2).bind fun t144 => (some (decide (t142 ≥ (mx t143 t144))))))) else (none))))) else (none))) else (none))) else (none)))) else (none))) else (none))) else (none))) = some r := H
          have A9 := Aside0.mk A90
          clear A90
          replace H := Option.bind_eq_some_iff.mp H
          obtain ⟨⟨t108, t109, t110, t111⟩, A100, H⟩ := H
          replace H : (if ([] : List Int).length + l0.length < 140737488355328 then ((some (([] : List Int) ++ l0 : List Int)).bind fun y113 => (if y113.length + l1.length < 140737488355328 then ((some (y113 ++ l1 : List Int)).bind fun y116 => (if y116.length + l0.length < 140737488355328 then ((fold_Set_Union.f t103 t104 t105 t106 t108 t109 t110 t111).bind fun bt122 => ((fold_Of.f (y116 ++ l0)).bind fun bt127 => (if (bt127.1 == bt122.1 && (bt127.2.1 == bt122.2.1 && (bt127.2.2.1 == bt122.2.2.1 && (bt127.2.2.2 == bt122.2.2.2)))) = true then ((fold_Set_Union.f t108 t109 t110 t111 t103 t104 t105 t106).bind fun bt131 => (if (bt131.1 == bt122.1 && (bt131.2.1 == bt122.2.1 && (bt131.2.2.1 == bt122.2.2.1 && (bt131.2.2.2 == bt122.2.2.2)))) = true then ((fold_Set_Union.f bt122.1 bt122.2.1 bt122.2.2.1 bt122.2.2.2 bt122.1 bt122.2.1 bt122.2.2.1 bt122.2.2.2).bind fun bt135 => (if (bt135.1 == bt122.1 && (bt135.2.1 == bt122.2.1 && (bt135.2.2.1 == bt122.2.2.1 && (bt135.2.2.2 == bt122.2.2.2)))) = true then ((fold_Set_Len.f bt122.1 bt122.2.1 bt122.2.2.1 bt122.2.2.2).bind fun t139 => ((fold_Set_Len.f t103 t104 t105 t106).bind fun t140 => ((fold_Set_Len.f t108 t109 t110 t111).bind fun t141 => (if t139 ≤ (wrap64 (t140 + t141)) then ((fold_Set_Len.f bt122.1 bt122.2.1 bt122.2.2.1 bt122.2.2.2).bind fun t142 => ((fold_Set_Len.f t103 t104 t105 t106).bind fun t143 => ((fold_Set_Len.f t108 t109 t110 t111).bind fun t144 => (some (decide (t142 ≥ (mx t143 t144))))))) else (none))))) else (none))) else (none))) else (none)))) else (none))) else (none))) else (none)) = some r := H
          have A10 := Aside0.mk A100
          clear A100
          by_cases c11 : ([] : List Int).length + l0.length < 140737488355328
          · rw [if_pos c11] at H
            have LMc11 := Aside0.mk c11
            clear c11
            obtain ⟨y113, hy113⟩ : ∃ y_ : List Int, y_ = (([] : List Int) ++ l0) := ⟨_, rfl⟩
            replace H : (if y113.length + l1.length < 140737488355328 then ((some (y113 ++ l1 : List Int)).bind fun y116 => (if y116.length + l0.length < 140737488355328 then ((fold_Set_Union.f t103 t104 t105 t106 t108 t109 t110 t111).bind fun bt122 => ((fold_Of.f (y116 ++ l0)).bind fun bt127 => (if (bt127.1 == bt122.1 && (bt127.2.1 == bt122.2.1 && (bt127.2.2.1 == bt122.2.2.1 && (bt127.2.2.2 == bt122.2.2.2)))) = true then ((fold_Set_Union.f t108 t109 t110 t111 t103 t104 t105 t106).bind fun bt131 => (if (bt131.1 == bt122.1 && (bt131.2.1 == bt122.2.1 && (bt131.2.2.1 == bt122.2.2.1 && (bt131.2.2.2 == bt122.2.2.2)))) = true then ((fold_Set_Union.f bt122.1 bt122.2.1 bt122.2.2.1 bt122.2.2.2 bt122.1 bt122.2.1 bt122.2.2.1 bt122.2.2.2).bind fun bt135 => (if (bt135.1 == bt122.1 && (bt135.2.1 == bt122.2.1 && (bt135.2.2.1 == bt122.2.2.1 && (bt135.2.2.2 == bt122.2.2.2)))) = true then ((fold_Set_Len.f bt122.1 bt122.2.1 bt122.2.2.1 bt122.2.2.2).bind fun t139 => ((fold_Set_Len.f t103 t104 t105 t106).bind fun t140 => ((fold_Set_Len.f t108 t109 t110 t111).bind fun t141 => (if t139 ≤ (wrap64 (t140 + t141)) then ((fold_Set_Len.f bt122.1 bt122.2.1 bt122.2.2.1 bt122.2.2.2).bind fun t142 => ((fold_Set_Len.f t103 t104 t105 t106).bind fun t143 => ((fold_Set_Len.f t108 t109 t110 t111).bind fun t144 => (some (decide (t142 ≥ (mx t143 t144))))))) else (none))))) else (none))) else (none))) else (none)))) else (none))) else (none)) = some r := by first | (rw [hy113]; with_reducible exact H) | (have H2_ := (Option.bind_some _ _).symm.trans H; rw [hy113]; with_reducible exact H2_) | (have H2_ := (Option.bind_some _ _).symm.trans H; with_reducible exact H2_) | with_reducible exact H | (rw [hy113]; exact H) | exact H
            have Ny113 := Aside0.mk hy113
            clear hy113
            by_cases c12 : y113.length + l1.length < 140737488355328
            · rw [if_pos c12] at H
              have LMc12 := Aside0.mk c12
              clear c12
              obtain ⟨y116, hy116⟩ : ∃ y_ : List Int, y_ = (y113 ++ l1) := ⟨_, rfl⟩
              replace H : (if y116.length + l0.length < 140737488355328 then ((fold_Set_Union.f t103 t104 t105 t106 t108 t109 t110 t111).bind fun bt122 => ((fold_Of.f (y116 ++ l0)).bind fun bt127 => (if (bt127.1 == bt122.1 && (bt127.2.1 == bt122.2.1 && (bt127.2.2.1 == bt122.2.2.1 && (bt127.2.2.2 == bt122.2.2.2)))) = true then ((fold_Set_Union.f t108 t109 t110 t111 t103 t104 t105 t106).bind fun bt131 => (if (bt131.1 == bt122.1 && (bt131.2.1 == bt122.2.1 && (bt131.2.2.1 == bt122.2.2.1 && (bt131.2.2.2 == bt122.2.2.2)))) = true then ((fold_Set_Union.f bt122.1 bt122.2.1 bt122.2.2.1 bt122.2.2.2 bt122.1 bt122.2.1 bt122.2.2.1 bt122.2.2.2).bind fun bt135 => (if (bt135.1 == bt122.1 && (bt135.2.1 == bt122.2.1 && (bt135.2.2.1 == bt122.2.2.1 && (bt135.2.2.2 == bt122.2.2.2)))) = true then ((fold_Set_Len.f bt122.1 bt122.2.1 bt122.2.2.1 bt122.2.2.2).bind fun t139 => ((fold_Set_Len.f t103 t104 t105 t106).bind fun t140 => ((fold_Set_Len.f t108 t109 t110 t111).bind fun t141 => (if t139 ≤ (wrap64 (t140 + t141)) then ((fold_Set_Len.f bt122.1 bt122.2.1 bt122.2.2.1 bt122.2.2.2).bind fun t142 => ((fold_Set_Len.f t103 t104 t105 t106).bind fun t143 => ((fold_Set_Len.f t108 t109 t110 t111).bind fun t144 => (some (decide (t142 ≥ (mx t143 t144))))))) else (none))))) else (none))) else (none))) else (none)))) else (none)) = some r := by first | (rw [hy116]; with_reducible exact H) | (have H2_ := (Option.bind_some _ _).symm.trans H; rw [hy116]; with_reducible exact H2_) | (have H2_ := (Option.bind_some _ _).symm.trans H; with_reducible exact H2_) | with_reducible exact H | (rw [hy116]; exact H) | exact H
              have Ny116 := Aside0.mk hy116
              clear hy116
              by_cases c13 : y116.length + l0.length < 140737488355328
              · rw [if_pos c13] at H
                have LMc13 := Aside0.mk c13
                clear c13
                obtain ⟨y119, hy119⟩ : ∃ y_ : List Int, y_ = (y116 ++ l0) := ⟨_, rfl⟩
                replace H : ((fold_Set_Union.f t103 t104 t105 t106 t108 t109 t110 t111).bind fun bt122 => ((fold_Of.f y119).bind fun bt127 => (if (bt127.1 == bt122.1 && (bt127.2.1 == bt122.2.1 && (bt127.2.2.1 == bt122.2.2.1 && (bt127.2.2.2 == bt122.2.2.2)))) = true then ((fold_Set_Union.f t108 t109 t110 t111 t103 t104 t105 t106).bind fun bt131 => (if (bt131.1 == bt122.1 && (bt131.2.1 == bt122.2.1 && (bt131.2.2.1 == bt122.2.2.1 && (bt131.2.2.2 == bt122.2.2.2)))) = true then ((fold_Set_Union.f bt122.1 bt122.2.1 bt122.2.2.1 bt122.2.2.2 bt122.1 bt122.2.1 bt122.2.2.1 bt122.2.2.2).bind fun bt135 => (if (bt135.1 == bt122.1 && (bt135.2.1 == bt122.2.1 && (bt135.2.2.1 == bt122.2.2.1 && (bt135.2.2.2 == bt122.2.2.2)))) = true then ((fold_Set_Len.f bt122.1 bt122.2.1 bt122.2.2.1 bt122.2.2.2).bind fun t139 => ((fold_Set_Len.f t103 t104 t105 t106).bind fun t140 => ((fold_Set_Len.f t108 t109 t110 t111).bind fun t141 => (if t139 ≤ (wrap64 (t140 + t141)) then ((fold_Set_Len.f bt122.1 bt122.2.1 bt122.2.2.1 bt122.2.2.2).bind fun t142 => ((fold_Set_Len.f t103 t104 t105 t106).bind fun t143 => ((fold_Set_Len.f t108 t109 t110 t111).bind fun t144 => (some (decide (t142 ≥ (mx t143 t144))))))) else (none))))) else (none))) else (none))) else (none)))) = some r := by first | (rw [hy119]; with_reducible exact H) | (have H2_ := (Option.bind_some _ _).symm.trans H; rw [hy119]; with_reducible exact H2_) | (have H2_ := (Option.bind_some _ _).symm.trans H; with_reducible exact H2_) | with_reducible exact H | (rw [hy119]; exact H) | exact H
                have Ny119 := Aside0.mk hy119
                clear hy119
                replace H := Option.bind_eq_some_iff.mp H
                obtain ⟨⟨t122, t123, t124, t125⟩, A140, H⟩ := H
                replace H : ((fold_Of.f y119).bind fun bt127 => (if (bt127.1 == t122 && (bt127.2.1 == t123 && (bt127.2.2.1 == t124 && (bt127.2.2.2 == t125)))) = true then ((fold_Set_Union.f t108 t109 t110 t111 t103 t104 t105 t106).bind fun bt131 => (if (bt131.1 == t122 && (bt131.2.1 == t123 && (bt131.2.2.1 == t124 && (bt131.2.2.2 == t125)))) = true then ((fold_Set_Union.f t122 t123 t124 t125 t122 t123 t124 t125).bind fun bt135 => (if (bt135.1 == t122 && (bt135.2.1 == t123 && (bt135.2.2.1 == t124 && (bt135.2.2.2 == t125)))) = true then ((fold_Set_Len.f t122 t123 t124 t125).bind fun t139 => ((fold_Set_Len.f t103 t104 t105 t106).bind fun t140 => ((fold_Set_Len.f t108 t109 t110 t111).bind fun t141 => (if t139 ≤ (wrap64 (t140 + t141)) then ((fold_Set_Len.f t122 t123 t124 t125).bind fun t142 => ((fold_Set_Len.f t103 t104 t105 t106).bind fun t143 => ((fold_Set_Len.f t108 t109 t110 t111).bind fun t144 => (some (decide (t142 ≥ (mx t143 t144))))))) else (none))))) else (none))) else (none))) else (none))) = some r := H
                have A14 := Aside0.mk A140
                clear A140
                replace H := Option.bind_eq_some_iff.mp H
                obtain ⟨⟨t127, t128, t129, t130⟩, A150, H⟩ := H
                replace H : (if (t127 == t122 && (t128 == t123 && (t129 == t124 && (t130 == t125)))) = true then ((fold_Set_Union.f t108 t109 t110 t111 t103 t104 t105 t106).bind fun bt131 => (if (bt131.1 == t122 && (bt131.2.1 == t123 && (bt131.2.2.1 == t124 && (bt131.2.2.2 == t125)))) = true then ((fold_Set_Union.f t122 t123 t124 t125 t122 t123 t124 t125).bind fun bt135 => (if (bt135.1 == t122 && (bt135.2.1 == t123 && (bt135.2.2.1 == t124 && (bt135.2.2.2 == t125)))) = true then ((fold_Set_Len.f t122 t123 t124 t125).bind fun t139 => ((fold_Set_Len.f t103 t104 t105 t106).bind fun t140 => ((fold_Set_Len.f t108 t109 t110 t111).bind fun t141 => (if t139 ≤ (wrap64 (t140 + t141)) then ((fold_Set_Len.f t122 t123 t124 t125).bind fun t142 => ((fold_Set_Len.f t103 t104 t105 t106).bind fun t143 => ((fold_Set_Len.f t108 t109 t110 t111).bind fun t144 => (some (decide (t142 ≥ (mx t143 t144))))))) else (none))))) else (none))) else (none))) else (none)) = some r := H
                have A15 := Aside0.mk A150
                clear A150
                by_cases c16 : (t127 == t122 && (t128 == t123 && (t129 == t124 && (t130 == t125)))) = true
                · rw [if_pos c16] at H
                  have c16b0 : (t127 == t122 && (t128 == t123 && (t129 == t124 && (t130 == t125)))) = true := c16
                  (try (have c16b1 : decide (t127 = t122 && (t128 == t123 && (t129 == t124 && (t130 == t125)))) = true := by simpa using c16))
                  (try (have c16b2 : (t127 == t122 && (t128 == t123 && (t129 == t124 && (t130 == t125)))) = true := by simpa using c16))
                  clear c16
                  replace H := Option.bind_eq_some_iff.mp H
                  obtain ⟨⟨t131, t132, t133, t134⟩, A170, H⟩ := H
                  replace H : (if (t131 == t122 && (t132 == t123 && (t133 == t124 && (t134 == t125)))) = true then ((fold_Set_Union.f t122 t123 t124 t125 t122 t123 t124 t125).bind fun bt135 => (if (bt135.1 == t122 && (bt135.2.1 == t123 && (bt135.2.2.1 == t124 && (bt135.2.2.2 == t125)))) = true then ((fold_Set_Len.f t122 t123 t124 t125).bind fun t139 => ((fold_Set_Len.f t103 t104 t105 t106).bind fun t140 => ((fold_Set_Len.f t108 t109 t110 t111).bind fun t141 => (if t139 ≤ (wrap64 (t140 + t141)) then ((fold_Set_Len.f t122 t123 t124 t125).bind fun t142 => ((fold_Set_Len.f t103 t104 t105 t106).bind fun t143 => ((fold_Set_Len.f t108 t109 t110 t111).bind fun t144 => (some (decide (t142 ≥ (mx t143 t144))))))) else (none))))) else (none))) else (none)) = some r := H
                  have A17 := Aside0.mk A170
                  clear A170
                  by_cases c18 : (t131 == t122 && (t132 == t123 && (t133 == t124 && (t134 == t125)))) = true
                  · rw [if_pos c18] at H
                    have c18b0 : (t131 == t122 && (t132 == t123 && (t133 == t124 && (t134 == t125)))) = true := c18
                    (try (have c18b1 : decide (t131 = t122 && (t132 == t123 && (t133 == t124 && (t134 == t125)))) = true := by simpa using c18))
                    (try (have c18b2 : (t131 == t122 && (t132 == t123 && (t133 == t124 && (t134 == t125)))) = true := by simpa using c18))
                    clear c18
                    replace H := Option.bind_eq_some_iff.mp H
                    obtain ⟨⟨t135, t136, t137, t138⟩, A190, H⟩ := H
                    replace H : (if (t135 == t122 && (t136 == t123 && (t137 == t124 && (t138 == t125)))) = true then ((fold_Set_Len.f t122 t123 t124 t125).bind fun t139 => ((fold_Set_Len.f t103 t104 t105 t106).bind fun t140 => ((fold_Set_Len.f t108 t109 t110 t111).bind fun t141 => (if t139 ≤ (wrap64 (t140 + t141)) then ((fold_Set_Len.f t122 t123 t124 t125).bind fun t142 => ((fold_Set_Len.f t103 t104 t105 t106).bind fun t143 => ((fold_Set_Len.f t108 t109 t110 t111).bind fun t144 => (some (decide (t142 ≥ (mx t143 t144))))))) else (none))))) else (none)) = some r := H
                    have A19 := Aside0.mk A190
                    clear A190
                    by_cases c20 : (t135 == t122 && (t136 == t123 && (t137 == t124 && (t138 == t125)))) = true
                    · rw [if_pos c20] at H
                      have c20b0 : (t135 == t122 && (t136 == t123 && (t137 == t124 && (t138 == t125)))) = true := c20
                      (try (have c20b1 : decide (t135 = t122 && (t136 == t123 && (t137 == t124 && (t138 == t125)))) = true := by simpa using c20))
                      (try (have c20b2 : (t135 == t122 && (t136 == t123 && (t137 == t124 && (t138 == t125)))) = true := by simpa using c20))
                      clear c20
                      replace H := Option.bind_eq_some_iff.mp H
                      obtain ⟨t139, A210, H⟩ := H
                      replace H : ((fold_Set_Len.f t103 t104 t105 t106).bind fun t140 => ((fold_Set_Len.f t108 t109 t110 t111).bind fun t141 => (if t139 ≤ (wrap64 (t140 + t141)) then ((fold_Set_Len.f t122 t123 t124 t125).bind fun t142 => ((fold_Set_Len.f t103 t104 t105 t106).bind fun t143 => ((fold_Set_Len.f t108 t109 t110 t111).bind fun t144 => (some (decide (t142 ≥ (mx t143 t144))))))) else (none)))) = some r := H
                      have A21 := Aside0.mk A210
                      clear A210
                      replace H := Option.bind_eq_some_iff.mp H
                      obtain ⟨t140, A220, H⟩ := H
                      replace H : ((fold_Set_Len.f t108 t109 t110 t111).bind fun t141 => (if t139 ≤ (wrap64 (t140 + t141)) then ((fold_Set_Len.f t122 t123 t124 t125).bind fun t142 => ((fold_Set_Len.f t103 t104 t105 t106).bind fun t143 => ((fold_Set_Len.f t108 t109 t110 t111).bind fun t144 => (some (decide (t142 ≥ (mx t143 t144))))))) else (none))) = some r := H
                      have A22 := Aside0.mk A220
                      clear A220
                      replace H := Option.bind_eq_some_iff.mp H
                      obtain ⟨t141, A230, H⟩ := H
                      replace H : (if t139 ≤ (wrap64 (t140 + t141)) then ((fold_Set_Len.f t122 t123 t124 t125).bind fun t142 => ((fold_Set_Len.f t103 t104 t105 t106).bind fun t143 => ((fold_Set_Len.f t108 t109 t110 t111).bind fun t144 => (some (decide (t142 ≥ (mx t143 t144))))))) else (none)) = some r := H
                      have A23 := Aside0.mk A230
                      clear A230
                      by_cases c24 : t139 ≤ (wrap64 (t140 + t141))
                      · rw [if_pos c24] at H
                        have c24b0 : decide (t139 ≤ (wrap64 (t140 + t141))) = true := decide_eq_true c24
                        clear c24
                        replace H := Option.bind_eq_some_iff.mp H
                        obtain ⟨t142, A250, H⟩ := H
                        replace H : ((fold_Set_Len.f t103 t104 t105 t106).bind fun t143 => ((fold_Set_Len.f t108 t109 t110 t111).bind fun t144 => (some (decide (t142 ≥ (mx t143 t144)))))) = some r := H
                        have A25 := Aside0.mk A250
                        clear A250
                        have hqA25 := Aside0.mk (Option.some.inj (A21.out.symm.trans A25.out))
                        replace H := Option.bind_eq_some_iff.mp H
                        obtain ⟨t143, A260, H⟩ := H
                        replace H : ((fold_Set_Len.f t108 t109 t110 t111).bind fun t144 => (some (decide (t142 ≥ (mx t143 t144))))) = some r := H
                        have A26 := Aside0.mk A260
                        clear A260
                        have hqA26 := Aside0.mk (Option.some.inj (A22.out.symm.trans A26.out))
                        replace H := Option.bind_eq_some_iff.mp H
                        obtain ⟨t144, A270, H⟩ := H
                        replace H : (some (decide (t142 ≥ (mx t143 t144)))) = some r := H
                        have A27 := Aside0.mk A270
                        clear A270
                        have hqA27 := Aside0.mk (Option.some.inj (A23.out.symm.trans A27.out))
                        obtain ⟨ji28, hji28⟩ : ∃ j_ : Int, (mx t143 t144) = j_ := ⟨_, rfl⟩
                        replace H : (some (decide (t142 ≥ (ji28)))) = some r := by first | (rw [hji28] at H; exact H) | (simp only [hji28] at H ⊢; exact H)
                        (try rw [hji28] at A9)
                        (try rw [hji28] at A10)
                        (try rw [hji28] at A14)
                        (try rw [hji28] at A15)
                        (try rw [hji28] at A17)
                        (try rw [hji28] at A19)
                        (try rw [hji28] at A21)
                        (try rw [hji28] at A22)
                        (try rw [hji28] at A23)
                        (try rw [hji28] at A25)
                        (try rw [hji28] at A26)
                        (try rw [hji28] at A27)
                        have hji28_ : (if t143 < t144 then t144 else t143) = ji28 := hji28
                        obtain rfl := Option.some.inj H
                        try go_wp2_with (first | ((with_reducible refine gate_callee (f := 17) rfl ?_); refine goesL_ (some 22) rfl rfl Try.func17 (by kernel_rfl) rfl #[.slice A0 l0.length c0] rfl (by (try simp only [List.map_toArray, List.map_cons, List.map_nil]); first | done | rfl | (simp only [List.length_drop, List.length_take]; rfl)) ?_; (with_reducible refine (fold_Of.calls _ _ l0 t103 t104 t105 t106 _ ?side1 ?side2 A9.out).mono ?_); (case side1 => repeat (first | exact (Kd.C_below HR0.out HB.out) | (with_reducible refine Kd.C_alloc ?_ _) | (with_reducible refine Kd.C_drewN ?_ _) | (with_reducible refine Kd.C_drew ?_))); (case side2 => exact HC0.out); rintro e w29 ⟨rfl, hb⟩; refine ⟨_, rfl, ?_⟩; have n0_ := Aside0.mk (below_step (by repeat (first | (with_reducible first | exact HB.out | apply below_alloc | apply pw_below_drewN | apply below_drew1) | exact HB.out)) hb); clear HB; have HB := n0_; clear n0_; (try clear hb); (try clear hb2); (try clear hk); (try clear hi)) | ((with_reducible refine gate_dst (N := 6) rfl ?_); (try (refine gate_guard (by rfl) ?_; dsimp only)); refine box_event ?hg (N := 6) ?hd (cs := #[.int .u64 0, .int .u64 0, .int .u64 0, .int .u64 0]) (t := 31) ?hr ?_; (case hd => rfl); (case hg => rfl); (case hr => first | (go_simp; done) | (go_simp; rfl)); intro gb107 hg w30 hbox hb; have n0_ := Aside0.mk (below_step (by repeat (first | (with_reducible first | exact HB.out | apply below_alloc | apply pw_below_drewN | apply below_drew1) | exact HB.out)) hb); have n1_ := Aside0.mk (hbox); have n2_ := Aside0.mk ((by rw [hg]; exact (below_size (by repeat (first | (with_reducible first | exact HB.out | apply below_alloc | apply pw_below_drewN | apply below_drew1) | exact HB.out))) : w.heap.size ≤ gb107)); have n3_ := Aside0.mk ((by rw [hg]; exact (below_size (by repeat (first | (with_reducible first | exact HB.out | apply below_alloc | apply pw_below_drewN | apply below_drew1) | exact HB.out))) : w.heap.size ≤ gb107)); clear HB; have HB := n0_; have BK107 := n1_; have GW107 := n2_; have GE107 := n3_; clear n0_ n1_ n2_ n3_; clear hb hbox hg; have hcz31_0 : w30.cell? ⟨gb107, 0, none⟩ = some (.int .u64 0) := (blk_cell BK107.out 0).trans rfl; have hcz31_1 : w30.cell? ⟨gb107, 1, none⟩ = some (.int .u64 0) := (blk_cell BK107.out 1).trans rfl; have hcz31_2 : w30.cell? ⟨gb107, 2, none⟩ = some (.int .u64 0) := (blk_cell BK107.out 2).trans rfl; have hcz31_3 : w30.cell? ⟨gb107, 3, none⟩ = some (.int .u64 0) := (blk_cell BK107.out 3).trans rfl; have hfz31_0 := blk_frozen BK107.out 0; have hfz31_1 := blk_frozen BK107.out 1; have hfz31_2 := blk_frozen BK107.out 2; have hfz31_3 := blk_frozen BK107.out 3) | ((with_reducible refine gate_callee (f := 17) rfl ?_); refine goesL_ (some 24) rfl rfl Try.func17 (by kernel_rfl) rfl #[.slice A1 l1.length c1] rfl (by (try simp only [List.map_toArray, List.map_cons, List.map_nil]); first | done | rfl | (simp only [List.length_drop, List.length_take]; rfl)) ?_; (with_reducible refine (fold_Of.calls _ _ l1 t108 t109 t110 t111 _ ?side1 ?side2 A10.out).mono ?_); (case side1 => exact Kd.C_below HR1.out (by repeat (first | (with_reducible first | exact HB.out | apply below_alloc | apply pw_below_drewN | apply below_drew1 | refine below_set ?_ GE107.out) | exact HB.out))); (case side2 => exact HC1.out); rintro e w32 ⟨rfl, hb⟩; refine ⟨_, rfl, ?_⟩; have n0_ := Aside0.mk (blk_below (g := gb107) (o := .cells #[.int .u64 t103, .int .u64 t104, .int .u64 t105, .int .u64 t106] 31 (0, 0)) (by (with_reducible repeat (first | refine blk_drewN ?_ _ | refine blk_drew ?_ | refine blk_alloc ?_ _)); refine blk_put (cs := #[.int .u64 t103, .int .u64 t104, .int .u64 t105, .int .u64 0]) ?_ 3 _ rfl; (with_reducible repeat (first | refine blk_drewN ?_ _ | refine blk_drew ?_ | refine blk_alloc ?_ _)); refine blk_put (cs := #[.int .u64 t103, .int .u64 t104, .int .u64 0, .int .u64 0]) ?_ 2 _ rfl; (with_reducible repeat (first | refine blk_drewN ?_ _ | refine blk_drew ?_ | refine blk_alloc ?_ _)); refine blk_put (cs := #[.int .u64 t103, .int .u64 0, .int .u64 0, .int .u64 0]) ?_ 1 _ rfl; (with_reducible repeat (first | refine blk_drewN ?_ _ | refine blk_drew ?_ | refine blk_alloc ?_ _)); refine blk_put (cs := #[.int .u64 0, .int .u64 0, .int .u64 0, .int .u64 0]) ?_ 0 _ rfl; (with_reducible repeat (first | refine blk_drewN ?_ _ | refine blk_drew ?_ | refine blk_alloc ?_ _)); exact BK107.out) hb); have n1_ := Aside0.mk (below_step (by repeat (first | (with_reducible first | exact HB.out | apply below_alloc | apply pw_below_drewN | apply below_drew1 | refine below_set ?_ GE107.out) | exact HB.out)) hb); clear BK107; clear HB; have BK107 := n0_; have HB := n1_; clear n0_ n1_; (try clear hb); (try clear hb2); (try clear hk); (try clear hi)) | ((with_reducible refine gate_dst (N := 7) rfl ?_); (try (refine gate_guard (by rfl) ?_; dsimp only)); refine box_event ?hg (N := 7) ?hd (cs := #[.int .u64 0, .int .u64 0, .int .u64 0, .int .u64 0]) (t := 31) ?hr ?_; (case hd => rfl); (case hg => rfl); (case hr => first | (go_simp; done) | (go_simp; rfl)); intro gb112 hg w33 hbox hb; have n0_ := Aside0.mk (blk_below (g := gb107) (o := .cells #[.int .u64 t103, .int .u64 t104, .int .u64 t105, .int .u64 t106] 31 (0, 0)) (by (with_reducible repeat (first | refine blk_drewN ?_ _ | refine blk_drew ?_ | refine blk_alloc ?_ _)); exact BK107.out) hb); have n1_ := Aside0.mk (below_step (by repeat (first | (with_reducible first | exact HB.out | apply below_alloc | apply pw_below_drewN | apply below_drew1 | refine below_set ?_ GE107.out) | exact HB.out)) hb); have n2_ := Aside0.mk (hbox); have n3_ := Aside0.mk ((by rw [hg]; exact (below_size (by repeat (first | (with_reducible first | exact HB.out | apply below_alloc | apply pw_below_drewN | apply below_drew1 | refine below_set ?_ GE107.out) | exact HB.out))) : w.heap.size ≤ gb112)); have n4_ := Aside0.mk ((by rw [hg]; exact (below_size (by repeat (first | (with_reducible first | exact HB.out | apply below_alloc | apply pw_below_drewN | apply below_drew1 | refine below_set ?_ GE107.out) | exact HB.out))) : w.heap.size ≤ gb112)); have n5_ := Aside0.mk ((by rw [hg]; exact Nat.ne_of_lt (blk_lt (g := gb107) (o := .cells #[.int .u64 t103, .int .u64 t104, .int .u64 t105, .int .u64 t106] 31 (0, 0)) (by (with_reducible repeat (first | refine blk_drewN ?_ _ | refine blk_drew ?_ | refine blk_alloc ?_ _)); exact BK107.out)) : gb107 ≠ gb112)); have n6_ := Aside0.mk ((by rw [hg]; exact Nat.ne_of_gt (blk_lt (g := gb107) (o := .cells #[.int .u64 t103, .int .u64 t104, .int .u64 t105, .int .u64 t106] 31 (0, 0)) (by (with_reducible repeat (first | refine blk_drewN ?_ _ | refine blk_drew ?_ | refine blk_alloc ?_ _)); exact BK107.out)) : gb112 ≠ gb107)); clear BK107; clear HB; have BK107 := n0_; have HB := n1_; have BK112 := n2_; have GW112 := n3_; have GE112 := n4_; have NB107_112 := n5_; have NB112_107 := n6_; clear n0_ n1_ n2_ n3_ n4_ n5_ n6_; clear hb hbox hg; have hnb34 := NB112_107.out; have hnc34 := NB107_112.out; have hcz35_0 : w33.cell? ⟨gb112, 0, none⟩ = some (.int .u64 0) := (blk_cell BK112.out 0).trans rfl; have hcz35_1 : w33.cell? ⟨gb112, 1, none⟩ = some (.int .u64 0) := (blk_cell BK112.out 1).trans rfl; have hcz35_2 : w33.cell? ⟨gb112, 2, none⟩ = some (.int .u64 0) := (blk_cell BK112.out 2).trans rfl; have hcz35_3 : w33.cell? ⟨gb112, 3, none⟩ = some (.int .u64 0) := (blk_cell BK112.out 3).trans rfl; have hfz35_0 := blk_frozen BK112.out 0; have hfz35_1 := blk_frozen BK112.out 1; have hfz35_2 := blk_frozen BK112.out 2; have hfz35_3 := blk_frozen BK112.out 3) | ((with_reducible refine gate_builtin (b := .append) (xs := #[.tmp 25, .tmp 26]) rfl ?_); (try (refine gate_guard (by rfl) ?_; dsimp only)); at_builtin; refine Kd.R_append_rows (Kd.int .u8) (w0 := w) w.heap.size rfl (.tmp 25) (.tmp 26) 22 5 (.int .u8 0) 1 rfl Try.underlying22 info5 rfl (by decide) (by omega) (.slice none 0 0) ([] : List Int) l0 _ _ _ (fun _ => True) (fun _ => False) rfl rfl ?aO ?aR (fun _ _ h => h) (fun _ h => h.elim) ?aF ?aB ?aS ?aL ?_; (case aR => exact Kd.C_below HR0.out (by repeat (first | (with_reducible first | exact HB.out | apply below_alloc | apply pw_below_drewN | apply below_drew1 | refine below_set ?_ GE107.out | refine below_set ?_ GE112.out) | exact HB.out))); (case aB => exact (by repeat (first | (with_reducible first | exact HB.out | apply below_alloc | apply pw_below_drewN | apply below_drew1 | refine below_set ?_ GE107.out | refine below_set ?_ GE112.out) | exact HB.out))); (case aF => exact (fun _ _ => trivial)); (case aO => exact ((Kd.R_nil _ _ _ _ (fun _ => True)))); (case aS => exact (below_size (by repeat (first | (with_reducible first | exact HB.out | apply below_alloc | apply pw_below_drewN | apply below_drew1 | refine below_set ?_ GE107.out | refine below_set ?_ GE112.out) | exact HB.out)))); (case aL => have := LMc11.out; omega); intro v114 w36 ho hb hg hat; rw [← Ny113.out] at ho; have n0_ := Aside0.mk (blk_grown (g := gb107) (o := .cells #[.int .u64 t103, .int .u64 t104, .int .u64 t105, .int .u64 t106] 31 (0, 0)) (by (with_reducible repeat (first | refine blk_drewN ?_ _ | refine blk_drew ?_ | refine blk_alloc ?_ _)); refine blk_far ?_ NB107_112.out _; (with_reducible repeat (first | refine blk_drewN ?_ _ | refine blk_drew ?_ | refine blk_alloc ?_ _)); refine blk_far ?_ NB107_112.out _; (with_reducible repeat (first | refine blk_drewN ?_ _ | refine blk_drew ?_ | refine blk_alloc ?_ _)); refine blk_far ?_ NB107_112.out _; (with_reducible repeat (first | refine blk_drewN ?_ _ | refine blk_drew ?_ | refine blk_alloc ?_ _)); refine blk_far ?_ NB107_112.out _; (with_reducible repeat (first | refine blk_drewN ?_ _ | refine blk_drew ?_ | refine blk_alloc ?_ _)); exact BK107.out) hg (by simp [Value.ownBlock])); have n1_ := Aside0.mk (blk_grown (g := gb112) (o := .cells #[.int .u64 t108, .int .u64 t109, .int .u64 t110, .int .u64 t111] 31 (0, 0)) (by (with_reducible repeat (first | refine blk_drewN ?_ _ | refine blk_drew ?_ | refine blk_alloc ?_ _)); refine blk_put (cs := #[.int .u64 t108, .int .u64 t109, .int .u64 t110, .int .u64 0]) ?_ 3 _ rfl; (with_reducible repeat (first | refine blk_drewN ?_ _ | refine blk_drew ?_ | refine blk_alloc ?_ _)); refine blk_put (cs := #[.int .u64 t108, .int .u64 t109, .int .u64 0, .int .u64 0]) ?_ 2 _ rfl; (with_reducible repeat (first | refine blk_drewN ?_ _ | refine blk_drew ?_ | refine blk_alloc ?_ _)); refine blk_put (cs := #[.int .u64 t108, .int .u64 0, .int .u64 0, .int .u64 0]) ?_ 1 _ rfl; (with_reducible repeat (first | refine blk_drewN ?_ _ | refine blk_drew ?_ | refine blk_alloc ?_ _)); refine blk_put (cs := #[.int .u64 0, .int .u64 0, .int .u64 0, .int .u64 0]) ?_ 0 _ rfl; (with_reducible repeat (first | refine blk_drewN ?_ _ | refine blk_drew ?_ | refine blk_alloc ?_ _)); exact BK112.out) hg (by simp [Value.ownBlock])); have n2_ := Aside0.mk (hb); have n3_ := Aside0.mk (ho); clear BK107; clear BK112; clear HB; have BK107 := n0_; have BK112 := n1_; have HB := n2_; have HO115 := n3_; clear n0_ n1_ n2_ n3_; clear ho hb hg hat) | ((with_reducible refine gate_builtin (b := .append) (xs := #[.tmp 28, .tmp 29]) rfl ?_); (try (refine gate_guard (by rfl) ?_; dsimp only)); at_builtin; refine Kd.R_append_rows (Kd.int .u8) (w0 := w) w.heap.size rfl (.tmp 28) (.tmp 29) 22 5 (.int .u8 0) 1 rfl Try.underlying22 info5 rfl (by decide) (by omega) v114 y113 l1 _ _ _ (fun _ => True) (fun _ => False) rfl rfl ?aO ?aR (fun _ _ h => h) (fun _ h => h.elim) ?aF ?aB ?aS ?aL ?_; (case aR => repeat (first | exact (Kd.C_below HR1.out HB.out) | (with_reducible refine Kd.C_alloc ?_ _) | (with_reducible refine Kd.C_drewN ?_ _) | (with_reducible refine Kd.C_drew ?_))); (case aB => exact (by repeat (first | (with_reducible first | exact HB.out | apply below_alloc | apply pw_below_drewN | apply below_drew1 | refine below_set ?_ GE107.out | refine below_set ?_ GE112.out) | exact HB.out))); (case aF => exact (fun _ _ => trivial)); (case aO => exact (by (with_reducible repeat (first | apply Kd.R_alloc | apply Kd.R_drewN | apply Kd.R_drew)); exact HO115.out)); (case aS => exact (below_size (by repeat (first | (with_reducible first | exact HB.out | apply below_alloc | apply pw_below_drewN | apply below_drew1 | refine below_set ?_ GE107.out | refine below_set ?_ GE112.out) | exact HB.out)))); (case aL => have := LMc12.out; omega); intro v117 w37 ho hb hg hat; rw [← Ny116.out] at ho; have n0_ := Aside0.mk (blk_grown (g := gb107) (o := .cells #[.int .u64 t103, .int .u64 t104, .int .u64 t105, .int .u64 t106] 31 (0, 0)) (by (with_reducible repeat (first | refine blk_drewN ?_ _ | refine blk_drew ?_ | refine blk_alloc ?_ _)); exact BK107.out) hg (Kd.R_ne HO115.out BK107.out (by decide))); have n1_ := Aside0.mk (blk_grown (g := gb112) (o := .cells #[.int .u64 t108, .int .u64 t109, .int .u64 t110, .int .u64 t111] 31 (0, 0)) (by (with_reducible repeat (first | refine blk_drewN ?_ _ | refine blk_drew ?_ | refine blk_alloc ?_ _)); exact BK112.out) hg (Kd.R_ne HO115.out BK112.out (by decide))); have n2_ := Aside0.mk (hb); have n3_ := Aside0.mk (ho); clear BK107; clear BK112; clear HB; clear HO115; have BK107 := n0_; have BK112 := n1_; have HB := n2_; have HO118 := n3_; clear n0_ n1_ n2_ n3_; clear ho hb hg hat) | ((with_reducible refine gate_builtin (b := .append) (xs := #[.tmp 31, .tmp 32]) rfl ?_); (try (refine gate_guard (by rfl) ?_; dsimp only)); at_builtin; refine Kd.R_append_rows (Kd.int .u8) (w0 := w) w.heap.size rfl (.tmp 31) (.tmp 32) 22 5 (.int .u8 0) 1 rfl Try.underlying22 info5 rfl (by decide) (by omega) v117 y116 l0 _ _ _ (fun _ => True) (fun _ => False) rfl rfl ?aO ?aR (fun _ _ h => h) (fun _ h => h.elim) ?aF ?aB ?aS ?aL ?_; (case aR => repeat (first | exact (Kd.C_below HR0.out HB.out) | (with_reducible refine Kd.C_alloc ?_ _) | (with_reducible refine Kd.C_drewN ?_ _) | (with_reducible refine Kd.C_drew ?_))); (case aB => exact (by repeat (first | (with_reducible first | exact HB.out | apply below_alloc | apply pw_below_drewN | apply below_drew1 | refine below_set ?_ GE107.out | refine below_set ?_ GE112.out) | exact HB.out))); (case aF => exact (fun _ _ => trivial)); (case aO => exact (by (with_reducible repeat (first | apply Kd.R_alloc | apply Kd.R_drewN | apply Kd.R_drew)); exact HO118.out)); (case aS => exact (below_size (by repeat (first | (with_reducible first | exact HB.out | apply below_alloc | apply pw_below_drewN | apply below_drew1 | refine below_set ?_ GE107.out | refine below_set ?_ GE112.out) | exact HB.out)))); (case aL => have := LMc13.out; omega); intro v120 w38 ho hb hg hat; rw [← Ny119.out] at ho; have n0_ := Aside0.mk (blk_grown (g := gb107) (o := .cells #[.int .u64 t103, .int .u64 t104, .int .u64 t105, .int .u64 t106] 31 (0, 0)) (by (with_reducible repeat (first | refine blk_drewN ?_ _ | refine blk_drew ?_ | refine blk_alloc ?_ _)); exact BK107.out) hg (Kd.R_ne HO118.out BK107.out (by decide))); have n1_ := Aside0.mk (blk_grown (g := gb112) (o := .cells #[.int .u64 t108, .int .u64 t109, .int .u64 t110, .int .u64 t111] 31 (0, 0)) (by (with_reducible repeat (first | refine blk_drewN ?_ _ | refine blk_drew ?_ | refine blk_alloc ?_ _)); exact BK112.out) hg (Kd.R_ne HO118.out BK112.out (by decide))); have n2_ := Aside0.mk (hb); have n3_ := Aside0.mk (ho); clear BK107; clear BK112; clear HB; clear HO118; have BK107 := n0_; have BK112 := n1_; have HB := n2_; have HO121 := n3_; clear n0_ n1_ n2_ n3_; clear ho hb hg hat; have hcz39_0 : w38.cell? ⟨gb107, 0, none⟩ = some (.int .u64 t103) := (blk_cell BK107.out 0).trans rfl; have hcz39_1 : w38.cell? ⟨gb107, 1, none⟩ = some (.int .u64 t104) := (blk_cell BK107.out 1).trans rfl; have hcz39_2 : w38.cell? ⟨gb107, 2, none⟩ = some (.int .u64 t105) := (blk_cell BK107.out 2).trans rfl; have hcz39_3 : w38.cell? ⟨gb107, 3, none⟩ = some (.int .u64 t106) := (blk_cell BK107.out 3).trans rfl; have hfz39_0 := blk_frozen BK107.out 0; have hfz39_1 := blk_frozen BK107.out 1; have hfz39_2 := blk_frozen BK107.out 2; have hfz39_3 := blk_frozen BK107.out 3; have hcz40_0 : w38.cell? ⟨gb112, 0, none⟩ = some (.int .u64 t108) := (blk_cell BK112.out 0).trans rfl; have hcz40_1 : w38.cell? ⟨gb112, 1, none⟩ = some (.int .u64 t109) := (blk_cell BK112.out 1).trans rfl; have hcz40_2 : w38.cell? ⟨gb112, 2, none⟩ = some (.int .u64 t110) := (blk_cell BK112.out 2).trans rfl; have hcz40_3 : w38.cell? ⟨gb112, 3, none⟩ = some (.int .u64 t111) := (blk_cell BK112.out 3).trans rfl; have hfz40_0 := blk_frozen BK112.out 0; have hfz40_1 := blk_frozen BK112.out 1; have hfz40_2 := blk_frozen BK112.out 2; have hfz40_3 := blk_frozen BK112.out 3) | ((with_reducible refine gate_callee (f := 18) rfl ?_); refine goesL_ (some 36) rfl rfl Try.func18 (by kernel_rfl) rfl #[.agg #[.int .u64 t103, .int .u64 t104, .int .u64 t105, .int .u64 t106], .agg #[.int .u64 t108, .int .u64 t109, .int .u64 t110, .int .u64 t111]] rfl (by (try simp only [List.map_toArray, List.map_cons, List.map_nil]); first | done | rfl | (simp only [List.length_drop, List.length_take]; rfl)) ?_; (with_reducible refine (fold_Set_Union.calls t103 t104 t105 t106 t108 t109 t110 t111 t122 t123 t124 t125 _ A14.out).mono ?_); rintro e w41 ⟨rfl, hb⟩; refine ⟨_, rfl, ?_⟩; have n0_ := Aside0.mk (Kd.R_below (by (with_reducible repeat (first | apply Kd.R_alloc | apply Kd.R_drewN | apply Kd.R_drew)); exact HO121.out) hb); have n1_ := Aside0.mk (blk_below (g := gb107) (o := .cells #[.int .u64 t103, .int .u64 t104, .int .u64 t105, .int .u64 t106] 31 (0, 0)) (by (with_reducible repeat (first | refine blk_drewN ?_ _ | refine blk_drew ?_ | refine blk_alloc ?_ _)); exact BK107.out) hb); have n2_ := Aside0.mk (blk_below (g := gb112) (o := .cells #[.int .u64 t108, .int .u64 t109, .int .u64 t110, .int .u64 t111] 31 (0, 0)) (by (with_reducible repeat (first | refine blk_drewN ?_ _ | refine blk_drew ?_ | refine blk_alloc ?_ _)); exact BK112.out) hb); have n3_ := Aside0.mk (below_step (by repeat (first | (with_reducible first | exact HB.out | apply below_alloc | apply pw_below_drewN | apply below_drew1 | refine below_set ?_ GE107.out | refine below_set ?_ GE112.out) | exact HB.out)) hb); clear HO121; clear BK107; clear BK112; clear HB; have HO121 := n0_; have BK107 := n1_; have BK112 := n2_; have HB := n3_; clear n0_ n1_ n2_ n3_; (try clear hb); (try clear hb2); (try clear hk); (try clear hi)) | ((with_reducible refine gate_dst (N := 9) rfl ?_); (try (refine gate_guard (by rfl) ?_; dsimp only)); refine box_event ?hg (N := 9) ?hd (cs := #[.int .u64 0, .int .u64 0, .int .u64 0, .int .u64 0]) (t := 31) ?hr ?_; (case hd => rfl); (case hg => rfl); (case hr => first | (go_simp; done) | (go_simp; rfl)); intro gb126 hg w42 hbox hb; have n0_ := Aside0.mk (Kd.R_below (by (with_reducible repeat (first | apply Kd.R_alloc | apply Kd.R_drewN | apply Kd.R_drew)); exact HO121.out) hb); have n1_ := Aside0.mk (blk_below (g := gb107) (o := .cells #[.int .u64 t103, .int .u64 t104, .int .u64 t105, .int .u64 t106] 31 (0, 0)) (by (with_reducible repeat (first | refine blk_drewN ?_ _ | refine blk_drew ?_ | refine blk_alloc ?_ _)); exact BK107.out) hb); have n2_ := Aside0.mk (blk_below (g := gb112) (o := .cells #[.int .u64 t108, .int .u64 t109, .int .u64 t110, .int .u64 t111] 31 (0, 0)) (by (with_reducible repeat (first | refine blk_drewN ?_ _ | refine blk_drew ?_ | refine blk_alloc ?_ _)); exact BK112.out) hb); have n3_ := Aside0.mk (below_step (by repeat (first | (with_reducible first | exact HB.out | apply below_alloc | apply pw_below_drewN | apply below_drew1 | refine below_set ?_ GE107.out | refine below_set ?_ GE112.out) | exact HB.out)) hb); have n4_ := Aside0.mk (hbox); have n5_ := Aside0.mk ((by rw [hg]; exact (below_size (by repeat (first | (with_reducible first | exact HB.out | apply below_alloc | apply pw_below_drewN | apply below_drew1 | refine below_set ?_ GE107.out | refine below_set ?_ GE112.out) | exact HB.out))) : w.heap.size ≤ gb126)); have n6_ := Aside0.mk ((by rw [hg]; exact (below_size (by repeat (first | (with_reducible first | exact HB.out | apply below_alloc | apply pw_below_drewN | apply below_drew1 | refine below_set ?_ GE107.out | refine below_set ?_ GE112.out) | exact HB.out))) : w.heap.size ≤ gb126)); have n7_ := Aside0.mk ((by rw [hg]; exact Nat.ne_of_lt (blk_lt (g := gb107) (o := .cells #[.int .u64 t103, .int .u64 t104, .int .u64 t105, .int .u64 t106] 31 (0, 0)) (by (with_reducible repeat (first | refine blk_drewN ?_ _ | refine blk_drew ?_ | refine blk_alloc ?_ _)); exact BK107.out)) : gb107 ≠ gb126)); have n8_ := Aside0.mk ((by rw [hg]; exact Nat.ne_of_gt (blk_lt (g := gb107) (o := .cells #[.int .u64 t103, .int .u64 t104, .int .u64 t105, .int .u64 t106] 31 (0, 0)) (by (with_reducible repeat (first | refine blk_drewN ?_ _ | refine blk_drew ?_ | refine blk_alloc ?_ _)); exact BK107.out)) : gb126 ≠ gb107)); have n9_ := Aside0.mk ((by rw [hg]; exact Nat.ne_of_lt (blk_lt (g := gb112) (o := .cells #[.int .u64 t108, .int .u64 t109, .int .u64 t110, .int .u64 t111] 31 (0, 0)) (by (with_reducible repeat (first | refine blk_drewN ?_ _ | refine blk_drew ?_ | refine blk_alloc ?_ _)); exact BK112.out)) : gb112 ≠ gb126)); have n10_ := Aside0.mk ((by rw [hg]; exact Nat.ne_of_gt (blk_lt (g := gb112) (o := .cells #[.int .u64 t108, .int .u64 t109, .int .u64 t110, .int .u64 t111] 31 (0, 0)) (by (with_reducible repeat (first | refine blk_drewN ?_ _ | refine blk_drew ?_ | refine blk_alloc ?_ _)); exact BK112.out)) : gb126 ≠ gb112)); clear HO121; clear BK107; clear BK112; clear HB; have HO121 := n0_; have BK107 := n1_; have BK112 := n2_; have HB := n3_; have BK126 := n4_; have GW126 := n5_; have GE126 := n6_; have NB107_126 := n7_; have NB126_107 := n8_; have NB112_126 := n9_; have NB126_112 := n10_; clear n0_ n1_ n2_ n3_ n4_ n5_ n6_ n7_ n8_ n9_ n10_; clear hb hbox hg; have hnb43 := NB126_107.out; have hnc43 := NB107_126.out; have hnb44 := NB126_112.out; have hnc44 := NB112_126.out; have hcz45_0 : w42.cell? ⟨gb126, 0, none⟩ = some (.int .u64 0) := (blk_cell BK126.out 0).trans rfl; have hcz45_1 : w42.cell? ⟨gb126, 1, none⟩ = some (.int .u64 0) := (blk_cell BK126.out 1).trans rfl; have hcz45_2 : w42.cell? ⟨gb126, 2, none⟩ = some (.int .u64 0) := (blk_cell BK126.out 2).trans rfl; have hcz45_3 : w42.cell? ⟨gb126, 3, none⟩ = some (.int .u64 0) := (blk_cell BK126.out 3).trans rfl; have hfz45_0 := blk_frozen BK126.out 0; have hfz45_1 := blk_frozen BK126.out 1; have hfz45_2 := blk_frozen BK126.out 2; have hfz45_3 := blk_frozen BK126.out 3))
                        have n0_ : Aside0 (Kd.R (Kd.int .u8) 5 ((((w42.setCell ⟨gb126, 0, none⟩ (.int .u64 t122)).setCell ⟨gb126, 1, none⟩ (.int .u64 t123)).setCell ⟨gb126, 2, none⟩ (.int .u64 t124)).setCell ⟨gb126, 3, none⟩ (.int .u64 t125)) w.heap.size (fun _ => True) v120 y119) := ⟨by (with_reducible repeat (first | apply Kd.R_alloc | apply Kd.R_drewN | apply Kd.R_drew)); exact Kd.R_mono (Kd.R_far (p := ⟨gb126, 3, none⟩) (Kd.R_far (p := ⟨gb126, 2, none⟩) (Kd.R_far (p := ⟨gb126, 1, none⟩) (Kd.R_far (p := ⟨gb126, 0, none⟩) (Kd.R_types HO121.out BK126.out (by decide)) (fun _ hk => hk.2) (.int .u64 t122)) (fun _ hk => hk.2) (.int .u64 t123)) (fun _ hk => hk.2) (.int .u64 t124)) (fun _ hk => hk.2) (.int .u64 t125)) (fun _ hk => trivial)⟩
                        have n1_ : Aside0 (((((w42.setCell ⟨gb126, 0, none⟩ (.int .u64 t122)).setCell ⟨gb126, 1, none⟩ (.int .u64 t123)).setCell ⟨gb126, 2, none⟩ (.int .u64 t124)).setCell ⟨gb126, 3, none⟩ (.int .u64 t125)).heap[gb107]? = some (.cells #[.int .u64 t103, .int .u64 t104, .int .u64 t105, .int .u64 t106] 31 (0, 0))) := ⟨by (with_reducible repeat (first | refine blk_drewN ?_ _ | refine blk_drew ?_ | refine blk_alloc ?_ _)); refine blk_far ?_ NB107_126.out _; (with_reducible repeat (first | refine blk_drewN ?_ _ | refine blk_drew ?_ | refine blk_alloc ?_ _)); refine blk_far ?_ NB107_126.out _; (with_reducible repeat (first | refine blk_drewN ?_ _ | refine blk_drew ?_ | refine blk_alloc ?_ _)); refine blk_far ?_ NB107_126.out _; (with_reducible repeat (first | refine blk_drewN ?_ _ | refine blk_drew ?_ | refine blk_alloc ?_ _)); refine blk_far ?_ NB107_126.out _; (with_reducible repeat (first | refine blk_drewN ?_ _ | refine blk_drew ?_ | refine blk_alloc ?_ _)); exact BK107.out⟩
                        have n2_ : Aside0 (((((w42.setCell ⟨gb126, 0, none⟩ (.int .u64 t122)).setCell ⟨gb126, 1, none⟩ (.int .u64 t123)).setCell ⟨gb126, 2, none⟩ (.int .u64 t124)).setCell ⟨gb126, 3, none⟩ (.int .u64 t125)).heap[gb112]? = some (.cells #[.int .u64 t108, .int .u64 t109, .int .u64 t110, .int .u64 t111] 31 (0, 0))) := ⟨by (with_reducible repeat (first | refine blk_drewN ?_ _ | refine blk_drew ?_ | refine blk_alloc ?_ _)); refine blk_far ?_ NB112_126.out _; (with_reducible repeat (first | refine blk_drewN ?_ _ | refine blk_drew ?_ | refine blk_alloc ?_ _)); refine blk_far ?_ NB112_126.out _; (with_reducible repeat (first | refine blk_drewN ?_ _ | refine blk_drew ?_ | refine blk_alloc ?_ _)); refine blk_far ?_ NB112_126.out _; (with_reducible repeat (first | refine blk_drewN ?_ _ | refine blk_drew ?_ | refine blk_alloc ?_ _)); refine blk_far ?_ NB112_126.out _; (with_reducible repeat (first | refine blk_drewN ?_ _ | refine blk_drew ?_ | refine blk_alloc ?_ _)); exact BK112.out⟩
                        have n3_ : Aside0 (((((w42.setCell ⟨gb126, 0, none⟩ (.int .u64 t122)).setCell ⟨gb126, 1, none⟩ (.int .u64 t123)).setCell ⟨gb126, 2, none⟩ (.int .u64 t124)).setCell ⟨gb126, 3, none⟩ (.int .u64 t125)).heap[gb126]? = some (.cells #[.int .u64 t122, .int .u64 t123, .int .u64 t124, .int .u64 t125] 31 (0, 0))) := ⟨by (with_reducible repeat (first | refine blk_drewN ?_ _ | refine blk_drew ?_ | refine blk_alloc ?_ _)); refine blk_put (cs := #[.int .u64 t122, .int .u64 t123, .int .u64 t124, .int .u64 0]) ?_ 3 _ rfl; (with_reducible repeat (first | refine blk_drewN ?_ _ | refine blk_drew ?_ | refine blk_alloc ?_ _)); refine blk_put (cs := #[.int .u64 t122, .int .u64 t123, .int .u64 0, .int .u64 0]) ?_ 2 _ rfl; (with_reducible repeat (first | refine blk_drewN ?_ _ | refine blk_drew ?_ | refine blk_alloc ?_ _)); refine blk_put (cs := #[.int .u64 t122, .int .u64 0, .int .u64 0, .int .u64 0]) ?_ 1 _ rfl; (with_reducible repeat (first | refine blk_drewN ?_ _ | refine blk_drew ?_ | refine blk_alloc ?_ _)); refine blk_put (cs := #[.int .u64 0, .int .u64 0, .int .u64 0, .int .u64 0]) ?_ 0 _ rfl; (with_reducible repeat (first | refine blk_drewN ?_ _ | refine blk_drew ?_ | refine blk_alloc ?_ _)); exact BK126.out⟩
                        have n4_ : Aside0 (Below w.heap.size w ((((w42.setCell ⟨gb126, 0, none⟩ (.int .u64 t122)).setCell ⟨gb126, 1, none⟩ (.int .u64 t123)).setCell ⟨gb126, 2, none⟩ (.int .u64 t124)).setCell ⟨gb126, 3, none⟩ (.int .u64 t125))) := ⟨by repeat (first | (with_reducible first | exact HB.out | apply below_alloc | apply pw_below_drewN | apply below_drew1 | refine below_set ?_ GE107.out | refine below_set ?_ GE112.out | refine below_set ?_ GE126.out) | exact HB.out)⟩
                        (try clear HO121)
                        (try clear BK107)
                        (try clear BK112)
                        (try clear BK126)
                        (try clear HB)
                        generalize ((((w42.setCell ⟨gb126, 0, none⟩ (.int .u64 t122)).setCell ⟨gb126, 1, none⟩ (.int .u64 t123)).setCell ⟨gb126, 2, none⟩ (.int .u64 t124)).setCell ⟨gb126, 3, none⟩ (.int .u64 t125)) = w46 at n0_ n1_ n2_ n3_ n4_ ⊢
                        have HO121 := n0_
                        have BK107 := n1_
                        have BK112 := n2_
                        have BK126 := n3_
                        have HB := n4_
                        clear n0_ n1_ n2_ n3_ n4_
                        have n0_ := Aside0.mk (Kd.R_drew HO121.out)
                        have n1_ := Aside0.mk (blk_drew BK107.out)
                        have n2_ := Aside0.mk (blk_drew BK112.out)
                        have n3_ := Aside0.mk (blk_drew BK126.out)
                        have n4_ := Aside0.mk (below_drew1 HB.out)
                        clear HO121
                        clear BK107
                        clear BK112
                        clear BK126
                        clear HB
                        have HO121 := n0_
                        have BK107 := n1_
                        have BK112 := n2_
                        have BK126 := n3_
                        have HB := n4_
                        clear n0_ n1_ n2_ n3_ n4_
                        obtain ⟨Ao48, co48, eo48⟩ := Kd.R_slice HO121.out
                        (first | subst eo48 | (injection eo48 with f1_ f2_ f3_; have f4_ := f1_.symm; have f5_ := f3_.symm; clear f1_ f2_ f3_; subst f4_; subst f5_))
                        refine start_ (n := 39) (S := fun w' => w'.cell? ⟨gb126, 0, none⟩ = some (.int .u64 t122) ∧ w'.cell? ⟨gb126, 1, none⟩ = some (.int .u64 t123) ∧ w'.cell? ⟨gb126, 2, none⟩ = some (.int .u64 t124) ∧ w'.cell? ⟨gb126, 3, none⟩ = some (.int .u64 t125) ∧ w'.cell? ⟨gb112, 0, none⟩ = some (.int .u64 t108) ∧ w'.cell? ⟨gb112, 1, none⟩ = some (.int .u64 t109) ∧ w'.cell? ⟨gb112, 2, none⟩ = some (.int .u64 t110) ∧ w'.cell? ⟨gb112, 3, none⟩ = some (.int .u64 t111) ∧ w'.cell? ⟨gb107, 0, none⟩ = some (.int .u64 t103) ∧ w'.cell? ⟨gb107, 1, none⟩ = some (.int .u64 t104) ∧ w'.cell? ⟨gb107, 2, none⟩ = some (.int .u64 t105) ∧ w'.cell? ⟨gb107, 3, none⟩ = some (.int .u64 t106)) (ds := []) #[false, false, false, false, false, false, false, false, false, false, false, false, false, false, false, false, false, false, false, false, false, false, false, false, false, false, false, false, false, false, false, false, false, false, false, false, false, false, false] (by kernel_rfl) rfl rfl ⟨(blk_cell BK126.out 0).trans rfl, (blk_cell BK126.out 1).trans rfl, (blk_cell BK126.out 2).trans rfl, (blk_cell BK126.out 3).trans rfl, (blk_cell BK112.out 0).trans rfl, (blk_cell BK112.out 1).trans rfl, (blk_cell BK112.out 2).trans rfl, (blk_cell BK112.out 3).trans rfl, (blk_cell BK107.out 0).trans rfl, (blk_cell BK107.out 1).trans rfl, (blk_cell BK107.out 2).trans rfl, (blk_cell BK107.out 3).trans rfl⟩ (fun hHeld => ?_); refine with_tabW seinelaw01_FoldJoins.tab13 seinelaw01_FoldJoins.bits13 (fun HT_ HW_ => ?_)
                        generalize w46.drew = w47 at HO121 BK107 BK112 BK126 HB hHeld ⊢
                        refine pure_ (i := 0) (N := some 37) (v := ?_) (a' := ?_) #[true, false, false, false, false, false, false, false, false, false, false, false, false, false, false, false, false, false, false, false, false, false, false, false, false, false, false, false, false, false, false, false, false, false, false, false, false, false, false] rfl rfl (any_of HT_.out (by kernel_rfl)) (fun _ _ _ h => h) (Or.inl ⟨by rfl, ?_⟩) ?_ ?_
                        rotate_left
                        · intro w'
                          go_simp
                          with_reducible rfl
                        rotate_left
                        · simp only [Act.put, List.setIfInBounds_toArray, List.set_cons_zero, List.set_cons_succ, i64_w, i32_w, (show ∀ x : Int, IntKind.u8.wrap x = x % 256 from fun _ => rfl)]
                          rfl
                        refine take_ (i := 2) (N := some 39) (v := ?_) (a' := ?_) #[true, false, true, false, false, false, false, false, false, false, false, false, false, false, false, false, false, false, false, false, false, false, false, false, false, false, false, false, false, false, false, false, false, false, false, false, false, false, false] rfl rfl (take_ofW HT_.out HW_.out (by kernel_rfl)) (fun _ _ _ h => h) (Or.inl ⟨by rfl, ?_⟩) hHeld ?_ ?_
                        rotate_left
                        · rintro w' ⟨s0, s1, s2, s3, s4, s5, s6, s7, s8, s9, s10, s11⟩
                          go_simp
                          with_reducible rfl
                        rotate_left
                        · simp only [Act.put, List.setIfInBounds_toArray, List.set_cons_zero, List.set_cons_succ, i64_w, i32_w, (show ∀ x : Int, IntKind.u8.wrap x = x % 256 from fun _ => rfl)]
                          rfl
                        refine one_ (i := 1) (N := some 38) #[true, true, true, false, false, false, false, false, false, false, false, false, false, false, false, false, false, false, false, false, false, false, false, false, false, false, false, false, false, false, false, false, false, false, false, false, false, false, false] rfl rfl (one_of HT_.out (by kernel_rfl)) (by decide) (fun K hK => ?_)
                        refine goes_ Try.func17 (by kernel_rfl) rfl #[.slice Ao48 y119.length co48] (by rfl) rfl rfl (by (try simp only [List.map_toArray, List.map_cons, List.map_nil]); first | done | rfl | (simp only [List.length_drop, List.length_take]; rfl)) ?_
                        with_reducible refine (fold_Of.calls _ _ y119 t127 t128 t129 t130 _ ?side1 ?side2 A15.out).mono ?_
                        (case side1 => repeat (first | exact (Kd.R_reads' HO121.out).2.2 | (with_reducible refine Kd.C_alloc ?_ _) | (with_reducible refine Kd.C_drewN ?_ _) | (with_reducible refine Kd.C_drew ?_)))
                        (case side2 => exact (Kd.R_reads' HO121.out).2.1)
                        rintro e w49 ⟨rfl, hb⟩
                        refine ⟨_, rfl, ?_⟩
                        have n0_ := Aside0.mk (Kd.R_below (by (with_reducible repeat (first | apply Kd.R_alloc | apply Kd.R_drewN | apply Kd.R_drew)); exact HO121.out) hb)
                        have n1_ := Aside0.mk (blk_below (g := gb107) (o := .cells #[.int .u64 t103, .int .u64 t104, .int .u64 t105, .int .u64 t106] 31 (0, 0)) (by (with_reducible repeat (first | refine blk_drewN ?_ _ | refine blk_drew ?_ | refine blk_alloc ?_ _)); exact BK107.out) hb)
                        have n2_ := Aside0.mk (blk_below (g := gb112) (o := .cells #[.int .u64 t108, .int .u64 t109, .int .u64 t110, .int .u64 t111] 31 (0, 0)) (by (with_reducible repeat (first | refine blk_drewN ?_ _ | refine blk_drew ?_ | refine blk_alloc ?_ _)); exact BK112.out) hb)
                        have n3_ := Aside0.mk (blk_below (g := gb126) (o := .cells #[.int .u64 t122, .int .u64 t123, .int .u64 t124, .int .u64 t125] 31 (0, 0)) (by (with_reducible repeat (first | refine blk_drewN ?_ _ | refine blk_drew ?_ | refine blk_alloc ?_ _)); exact BK126.out) hb)
                        have n4_ := Aside0.mk (below_step (by repeat (first | (with_reducible first | exact HB.out | apply below_alloc | apply pw_below_drewN | apply below_drew1 | refine below_set ?_ GE107.out | refine below_set ?_ GE112.out | refine below_set ?_ GE126.out) | exact HB.out)) hb)
                        clear HO121
                        clear BK107
                        clear BK112
                        clear BK126
                        clear HB
                        have HO121 := n0_
                        have BK107 := n1_
                        have BK112 := n2_
                        have BK126 := n3_
                        have HB := n4_
                        clear n0_ n1_ n2_ n3_ n4_
                        (try clear hb)
                        (try clear hb2)
                        (try clear hk)
                        (try clear hi)
                        refine hK.out _ _ ⟨(blk_cell BK126.out 0).trans rfl, (blk_cell BK126.out 1).trans rfl, (blk_cell BK126.out 2).trans rfl, (blk_cell BK126.out 3).trans rfl, (blk_cell BK112.out 0).trans rfl, (blk_cell BK112.out 1).trans rfl, (blk_cell BK112.out 2).trans rfl, (blk_cell BK112.out 3).trans rfl, (blk_cell BK107.out 0).trans rfl, (blk_cell BK107.out 1).trans rfl, (blk_cell BK107.out 2).trans rfl, (blk_cell BK107.out 3).trans rfl⟩ (fun hHeld => ?_)
                        clear hK K
                        refine norm_ (a' := ?_) ?_ ?_
                        rotate_left
                        · show Act.put _ (some 38) _ = _
                          simp only [Act.put, List.setIfInBounds_toArray, List.set_cons_zero, List.set_cons_succ, i64_w, i32_w, (show ∀ x : Int, IntKind.u8.wrap x = x % 256 from fun _ => rfl)]
                          rfl
                        refine pure_ (i := 3) (N := some 40) (v := ?_) (a' := ?_) #[true, true, true, true, false, false, false, false, false, false, false, false, false, false, false, false, false, false, false, false, false, false, false, false, false, false, false, false, false, false, false, false, false, false, false, false, false, false, false] rfl rfl (any_of HT_.out (by kernel_rfl)) (fun _ _ _ h => h) (Or.inl ⟨by rfl, ?_⟩) ?_ ?_
                        rotate_left
                        · intro w'
                          go_simp
                          with_reducible rfl
                        rotate_left
                        · simp only [Act.put, List.setIfInBounds_toArray, List.set_cons_zero, List.set_cons_succ, i64_w, i32_w, (show ∀ x : Int, IntKind.u8.wrap x = x % 256 from fun _ => rfl)]
                          rfl
                        refine pure_ (i := 4) (N := some 41) (v := ?_) (a' := ?_) #[true, true, true, true, true, false, false, false, false, false, false, false, false, false, false, false, false, false, false, false, false, false, false, false, false, false, false, false, false, false, false, false, false, false, false, false, false, false, false] rfl rfl (any_of HT_.out (by kernel_rfl)) (fun _ _ _ h => h) (Or.inl ⟨by rfl, ?_⟩) ?_ ?_
                        rotate_left
                        · intro w'
                          go_simp
                          with_reducible rfl
                        rotate_left
                        · simp only [Act.put, List.setIfInBounds_toArray, List.set_cons_zero, List.set_cons_succ, i64_w, i32_w, (show ∀ x : Int, IntKind.u8.wrap x = x % 256 from fun _ => rfl)]
                          rfl
                        refine take_ (i := 5) (N := some 42) (v := ?_) (a' := ?_) #[true, true, true, true, true, true, false, false, false, false, false, false, false, false, false, false, false, false, false, false, false, false, false, false, false, false, false, false, false, false, false, false, false, false, false, false, false, false, false] rfl rfl (take_ofW HT_.out HW_.out (by kernel_rfl)) (fun _ _ _ h => h) (Or.inl ⟨by rfl, ?_⟩) hHeld ?_ ?_
                        rotate_left
                        · rintro w' ⟨s0, s1, s2, s3, s4, s5, s6, s7, s8, s9, s10, s11⟩
                          go_simp
                          with_reducible rfl
                        rotate_left
                        · simp only [Act.put, List.setIfInBounds_toArray, List.set_cons_zero, List.set_cons_succ, i64_w, i32_w, (show ∀ x : Int, IntKind.u8.wrap x = x % 256 from fun _ => rfl)]
                          rfl
                        refine take_ (i := 6) (N := some 43) (v := ?_) (a' := ?_) #[true, true, true, true, true, true, true, false, false, false, false, false, false, false, false, false, false, false, false, false, false, false, false, false, false, false, false, false, false, false, false, false, false, false, false, false, false, false, false] rfl rfl (take_ofW HT_.out HW_.out (by kernel_rfl)) (fun _ _ _ h => h) (Or.inl ⟨by rfl, ?_⟩) hHeld ?_ ?_
                        rotate_left
                        · rintro w' ⟨s0, s1, s2, s3, s4, s5, s6, s7, s8, s9, s10, s11⟩
                          go_simp
                          with_reducible rfl
                        rotate_left
                        · simp only [Act.put, List.setIfInBounds_toArray, List.set_cons_zero, List.set_cons_succ, i64_w, i32_w, (show ∀ x : Int, IntKind.u8.wrap x = x % 256 from fun _ => rfl)]
                          rfl
                        refine take_ (i := 8) (N := some 45) (v := ?_) (a' := ?_) #[true, true, true, true, true, true, true, false, true, false, false, false, false, false, false, false, false, false, false, false, false, false, false, false, false, false, false, false, false, false, false, false, false, false, false, false, false, false, false] rfl rfl (take_ofW HT_.out HW_.out (by kernel_rfl)) (fun _ _ _ h => h) (Or.inl ⟨by rfl, ?_⟩) hHeld ?_ ?_
                        rotate_left
                        · rintro w' ⟨s0, s1, s2, s3, s4, s5, s6, s7, s8, s9, s10, s11⟩
                          go_simp
                          with_reducible rfl
                        rotate_left
                        · simp only [Act.put, List.setIfInBounds_toArray, List.set_cons_zero, List.set_cons_succ, i64_w, i32_w, (show ∀ x : Int, IntKind.u8.wrap x = x % 256 from fun _ => rfl)]
                          rfl
                        refine one_ (i := 7) (N := some 44) #[true, true, true, true, true, true, true, true, true, false, false, false, false, false, false, false, false, false, false, false, false, false, false, false, false, false, false, false, false, false, false, false, false, false, false, false, false, false, false] rfl rfl (one_of HT_.out (by kernel_rfl)) (by decide) (fun K hK => ?_)
                        refine goes_ Try.func18 (by kernel_rfl) rfl #[.agg #[.int .u64 t108, .int .u64 t109, .int .u64 t110, .int .u64 t111], .agg #[.int .u64 t103, .int .u64 t104, .int .u64 t105, .int .u64 t106]] (by rfl) rfl rfl (by (try simp only [List.map_toArray, List.map_cons, List.map_nil]); first | done | rfl | (simp only [List.length_drop, List.length_take]; rfl)) ?_
                        with_reducible refine (fold_Set_Union.calls t108 t109 t110 t111 t103 t104 t105 t106 t131 t132 t133 t134 _ A17.out).mono ?_
                        rintro e w50 ⟨rfl, hb⟩
                        refine ⟨_, rfl, ?_⟩
                        have n0_ := Aside0.mk (Kd.R_below (by (with_reducible repeat (first | apply Kd.R_alloc | apply Kd.R_drewN | apply Kd.R_drew)); exact HO121.out) hb)
                        have n1_ := Aside0.mk (blk_below (g := gb107) (o := .cells #[.int .u64 t103, .int .u64 t104, .int .u64 t105, .int .u64 t106] 31 (0, 0)) (by (with_reducible repeat (first | refine blk_drewN ?_ _ | refine blk_drew ?_ | refine blk_alloc ?_ _)); exact BK107.out) hb)
                        have n2_ := Aside0.mk (blk_below (g := gb112) (o := .cells #[.int .u64 t108, .int .u64 t109, .int .u64 t110, .int .u64 t111] 31 (0, 0)) (by (with_reducible repeat (first | refine blk_drewN ?_ _ | refine blk_drew ?_ | refine blk_alloc ?_ _)); exact BK112.out) hb)
                        have n3_ := Aside0.mk (blk_below (g := gb126) (o := .cells #[.int .u64 t122, .int .u64 t123, .int .u64 t124, .int .u64 t125] 31 (0, 0)) (by (with_reducible repeat (first | refine blk_drewN ?_ _ | refine blk_drew ?_ | refine blk_alloc ?_ _)); exact BK126.out) hb)
                        have n4_ := Aside0.mk (below_step (by repeat (first | (with_reducible first | exact HB.out | apply below_alloc | apply pw_below_drewN | apply below_drew1 | refine below_set ?_ GE107.out | refine below_set ?_ GE112.out | refine below_set ?_ GE126.out) | exact HB.out)) hb)
                        clear HO121
                        clear BK107
                        clear BK112
                        clear BK126
                        clear HB
                        have HO121 := n0_
                        have BK107 := n1_
                        have BK112 := n2_
                        have BK126 := n3_
                        have HB := n4_
                        clear n0_ n1_ n2_ n3_ n4_
                        (try clear hb)
                        (try clear hb2)
                        (try clear hk)
                        (try clear hi)
                        refine hK.out _ _ ⟨(blk_cell BK126.out 0).trans rfl, (blk_cell BK126.out 1).trans rfl, (blk_cell BK126.out 2).trans rfl, (blk_cell BK126.out 3).trans rfl, (blk_cell BK112.out 0).trans rfl, (blk_cell BK112.out 1).trans rfl, (blk_cell BK112.out 2).trans rfl, (blk_cell BK112.out 3).trans rfl, (blk_cell BK107.out 0).trans rfl, (blk_cell BK107.out 1).trans rfl, (blk_cell BK107.out 2).trans rfl, (blk_cell BK107.out 3).trans rfl⟩ (fun hHeld => ?_)
                        clear hK K
                        refine norm_ (a' := ?_) ?_ ?_
                        rotate_left
                        · show Act.put _ (some 44) _ = _
                          simp only [Act.put, List.setIfInBounds_toArray, List.set_cons_zero, List.set_cons_succ, i64_w, i32_w, (show ∀ x : Int, IntKind.u8.wrap x = x % 256 from fun _ => rfl)]
                          rfl
                        refine pure_ (i := 9) (N := some 46) (v := ?_) (a' := ?_) #[true, true, true, true, true, true, true, true, true, true, false, false, false, false, false, false, false, false, false, false, false, false, false, false, false, false, false, false, false, false, false, false, false, false, false, false, false, false, false] rfl rfl (any_of HT_.out (by kernel_rfl)) (fun _ _ _ h => h) (Or.inl ⟨by rfl, ?_⟩) ?_ ?_
                        rotate_left
                        · intro w'
                          go_simp
                          with_reducible rfl
                        rotate_left
                        · simp only [Act.put, List.setIfInBounds_toArray, List.set_cons_zero, List.set_cons_succ, i64_w, i32_w, (show ∀ x : Int, IntKind.u8.wrap x = x % 256 from fun _ => rfl)]
                          rfl
                        refine pure_ (i := 10) (N := some 47) (v := ?_) (a' := ?_) #[true, true, true, true, true, true, true, true, true, true, true, false, false, false, false, false, false, false, false, false, false, false, false, false, false, false, false, false, false, false, false, false, false, false, false, false, false, false, false] rfl rfl (any_of HT_.out (by kernel_rfl)) (fun _ _ _ h => h) (Or.inl ⟨by rfl, ?_⟩) ?_ ?_
                        rotate_left
                        · intro w'
                          go_simp
                          with_reducible rfl
                        rotate_left
                        · simp only [Act.put, List.setIfInBounds_toArray, List.set_cons_zero, List.set_cons_succ, i64_w, i32_w, (show ∀ x : Int, IntKind.u8.wrap x = x % 256 from fun _ => rfl)]
                          rfl
                        refine pure_ (i := 11) (N := some 48) (v := ?_) (a' := ?_) #[true, true, true, true, true, true, true, true, true, true, true, true, false, false, false, false, false, false, false, false, false, false, false, false, false, false, false, false, false, false, false, false, false, false, false, false, false, false, false] rfl rfl (any_of HT_.out (by kernel_rfl)) (fun _ _ _ h => h) (Or.inl ⟨by rfl, ?_⟩) ?_ ?_
                        rotate_left
                        · intro w'
                          go_simp
                          with_reducible rfl
                        rotate_left
                        · simp only [Act.put, List.setIfInBounds_toArray, List.set_cons_zero, List.set_cons_succ, i64_w, i32_w, (show ∀ x : Int, IntKind.u8.wrap x = x % 256 from fun _ => rfl)]
                          rfl
                        refine take_ (i := 12) (N := some 49) (v := ?_) (a' := ?_) #[true, true, true, true, true, true, true, true, true, true, true, true, true, false, false, false, false, false, false, false, false, false, false, false, false, false, false, false, false, false, false, false, false, false, false, false, false, false, false] rfl rfl (take_ofW HT_.out HW_.out (by kernel_rfl)) (fun _ _ _ h => h) (Or.inl ⟨by rfl, ?_⟩) hHeld ?_ ?_
                        rotate_left
                        · rintro w' ⟨s0, s1, s2, s3, s4, s5, s6, s7, s8, s9, s10, s11⟩
                          go_simp
                          with_reducible rfl
                        rotate_left
                        · simp only [Act.put, List.setIfInBounds_toArray, List.set_cons_zero, List.set_cons_succ, i64_w, i32_w, (show ∀ x : Int, IntKind.u8.wrap x = x % 256 from fun _ => rfl)]
                          rfl
                        refine take_ (i := 13) (N := some 50) (v := ?_) (a' := ?_) #[true, true, true, true, true, true, true, true, true, true, true, true, true, true, false, false, false, false, false, false, false, false, false, false, false, false, false, false, false, false, false, false, false, false, false, false, false, false, false] rfl rfl (take_ofW HT_.out HW_.out (by kernel_rfl)) (fun _ _ _ h => h) (Or.inl ⟨by rfl, ?_⟩) hHeld ?_ ?_
                        rotate_left
                        · rintro w' ⟨s0, s1, s2, s3, s4, s5, s6, s7, s8, s9, s10, s11⟩
                          go_simp
                          with_reducible rfl
                        rotate_left
                        · simp only [Act.put, List.setIfInBounds_toArray, List.set_cons_zero, List.set_cons_succ, i64_w, i32_w, (show ∀ x : Int, IntKind.u8.wrap x = x % 256 from fun _ => rfl)]
                          rfl
                        refine take_ (i := 15) (N := some 52) (v := ?_) (a' := ?_) #[true, true, true, true, true, true, true, true, true, true, true, true, true, true, false, true, false, false, false, false, false, false, false, false, false, false, false, false, false, false, false, false, false, false, false, false, false, false, false] rfl rfl (take_ofW HT_.out HW_.out (by kernel_rfl)) (fun _ _ _ h => h) (Or.inl ⟨by rfl, ?_⟩) hHeld ?_ ?_
                        rotate_left
                        · rintro w' ⟨s0, s1, s2, s3, s4, s5, s6, s7, s8, s9, s10, s11⟩
                          go_simp
                          with_reducible rfl
                        rotate_left
                        · simp only [Act.put, List.setIfInBounds_toArray, List.set_cons_zero, List.set_cons_succ, i64_w, i32_w, (show ∀ x : Int, IntKind.u8.wrap x = x % 256 from fun _ => rfl)]
                          rfl
                        refine one_ (i := 14) (N := some 51) #[true, true, true, true, true, true, true, true, true, true, true, true, true, true, true, true, false, false, false, false, false, false, false, false, false, false, false, false, false, false, false, false, false, false, false, false, false, false, false] rfl rfl (one_of HT_.out (by kernel_rfl)) (by decide) (fun K hK => ?_)
                        refine goes_ Try.func18 (by kernel_rfl) rfl #[.agg #[.int .u64 t122, .int .u64 t123, .int .u64 t124, .int .u64 t125], .agg #[.int .u64 t122, .int .u64 t123, .int .u64 t124, .int .u64 t125]] (by rfl) rfl rfl (by (try simp only [List.map_toArray, List.map_cons, List.map_nil]); first | done | rfl | (simp only [List.length_drop, List.length_take]; rfl)) ?_
                        with_reducible refine (fold_Set_Union.calls t122 t123 t124 t125 t122 t123 t124 t125 t135 t136 t137 t138 _ A19.out).mono ?_
                        rintro e w51 ⟨rfl, hb⟩
                        refine ⟨_, rfl, ?_⟩
                        have n0_ := Aside0.mk (Kd.R_below (by (with_reducible repeat (first | apply Kd.R_alloc | apply Kd.R_drewN | apply Kd.R_drew)); exact HO121.out) hb)
                        have n1_ := Aside0.mk (blk_below (g := gb107) (o := .cells #[.int .u64 t103, .int .u64 t104, .int .u64 t105, .int .u64 t106] 31 (0, 0)) (by (with_reducible repeat (first | refine blk_drewN ?_ _ | refine blk_drew ?_ | refine blk_alloc ?_ _)); exact BK107.out) hb)
                        have n2_ := Aside0.mk (blk_below (g := gb112) (o := .cells #[.int .u64 t108, .int .u64 t109, .int .u64 t110, .int .u64 t111] 31 (0, 0)) (by (with_reducible repeat (first | refine blk_drewN ?_ _ | refine blk_drew ?_ | refine blk_alloc ?_ _)); exact BK112.out) hb)
                        have n3_ := Aside0.mk (blk_below (g := gb126) (o := .cells #[.int .u64 t122, .int .u64 t123, .int .u64 t124, .int .u64 t125] 31 (0, 0)) (by (with_reducible repeat (first | refine blk_drewN ?_ _ | refine blk_drew ?_ | refine blk_alloc ?_ _)); exact BK126.out) hb)
                        have n4_ := Aside0.mk (below_step (by repeat (first | (with_reducible first | exact HB.out | apply below_alloc | apply pw_below_drewN | apply below_drew1 | refine below_set ?_ GE107.out | refine below_set ?_ GE112.out | refine below_set ?_ GE126.out) | exact HB.out)) hb)
                        clear HO121
                        clear BK107
                        clear BK112
                        clear BK126
                        clear HB
                        have HO121 := n0_
                        have BK107 := n1_
                        have BK112 := n2_
                        have BK126 := n3_
                        have HB := n4_
                        clear n0_ n1_ n2_ n3_ n4_
                        (try clear hb)
                        (try clear hb2)
                        (try clear hk)
                        (try clear hi)
                        refine hK.out _ _ ⟨(blk_cell BK126.out 0).trans rfl, (blk_cell BK126.out 1).trans rfl, (blk_cell BK126.out 2).trans rfl, (blk_cell BK126.out 3).trans rfl, (blk_cell BK112.out 0).trans rfl, (blk_cell BK112.out 1).trans rfl, (blk_cell BK112.out 2).trans rfl, (blk_cell BK112.out 3).trans rfl, (blk_cell BK107.out 0).trans rfl, (blk_cell BK107.out 1).trans rfl, (blk_cell BK107.out 2).trans rfl, (blk_cell BK107.out 3).trans rfl⟩ (fun hHeld => ?_)
                        clear hK K
                        refine norm_ (a' := ?_) ?_ ?_
                        rotate_left
                        · show Act.put _ (some 51) _ = _
                          simp only [Act.put, List.setIfInBounds_toArray, List.set_cons_zero, List.set_cons_succ, i64_w, i32_w, (show ∀ x : Int, IntKind.u8.wrap x = x % 256 from fun _ => rfl)]
                          rfl
                        refine pure_ (i := 16) (N := some 53) (v := ?_) (a' := ?_) #[true, true, true, true, true, true, true, true, true, true, true, true, true, true, true, true, true, false, false, false, false, false, false, false, false, false, false, false, false, false, false, false, false, false, false, false, false, false, false] rfl rfl (any_of HT_.out (by kernel_rfl)) (fun _ _ _ h => h) (Or.inl ⟨by rfl, ?_⟩) ?_ ?_
                        rotate_left
                        · intro w'
                          go_simp
                          with_reducible rfl
                        rotate_left
                        · simp only [Act.put, List.setIfInBounds_toArray, List.set_cons_zero, List.set_cons_succ, i64_w, i32_w, (show ∀ x : Int, IntKind.u8.wrap x = x % 256 from fun _ => rfl)]
                          rfl
                        refine pure_ (i := 17) (N := some 54) (v := ?_) (a' := ?_) #[true, true, true, true, true, true, true, true, true, true, true, true, true, true, true, true, true, true, false, false, false, false, false, false, false, false, false, false, false, false, false, false, false, false, false, false, false, false, false] rfl rfl (any_of HT_.out (by kernel_rfl)) (fun _ _ _ h => h) (Or.inl ⟨by rfl, ?_⟩) ?_ ?_
                        rotate_left
                        · intro w'
                          go_simp
                          with_reducible rfl
                        rotate_left
                        · simp only [Act.put, List.setIfInBounds_toArray, List.set_cons_zero, List.set_cons_succ, i64_w, i32_w, (show ∀ x : Int, IntKind.u8.wrap x = x % 256 from fun _ => rfl)]
                          rfl
                        refine pure_ (i := 18) (N := some 55) (v := ?_) (a' := ?_) #[true, true, true, true, true, true, true, true, true, true, true, true, true, true, true, true, true, true, true, false, false, false, false, false, false, false, false, false, false, false, false, false, false, false, false, false, false, false, false] rfl rfl (any_of HT_.out (by kernel_rfl)) (fun _ _ _ h => h) (Or.inl ⟨by rfl, ?_⟩) ?_ ?_
                        rotate_left
                        · intro w'
                          go_simp
                          with_reducible rfl
                        rotate_left
                        · simp only [Act.put, List.setIfInBounds_toArray, List.set_cons_zero, List.set_cons_succ, i64_w, i32_w, (show ∀ x : Int, IntKind.u8.wrap x = x % 256 from fun _ => rfl)]
                          rfl
                        refine take_ (i := 19) (N := some 56) (v := ?_) (a' := ?_) #[true, true, true, true, true, true, true, true, true, true, true, true, true, true, true, true, true, true, true, true, false, false, false, false, false, false, false, false, false, false, false, false, false, false, false, false, false, false, false] rfl rfl (take_ofW HT_.out HW_.out (by kernel_rfl)) (fun _ _ _ h => h) (Or.inl ⟨by rfl, ?_⟩) hHeld ?_ ?_
                        rotate_left
                        · rintro w' ⟨s0, s1, s2, s3, s4, s5, s6, s7, s8, s9, s10, s11⟩
                          go_simp
                          with_reducible rfl
                        rotate_left
                        · simp only [Act.put, List.setIfInBounds_toArray, List.set_cons_zero, List.set_cons_succ, i64_w, i32_w, (show ∀ x : Int, IntKind.u8.wrap x = x % 256 from fun _ => rfl)]
                          rfl
                        refine take_ (i := 21) (N := some 58) (v := ?_) (a' := ?_) #[true, true, true, true, true, true, true, true, true, true, true, true, true, true, true, true, true, true, true, true, false, true, false, false, false, false, false, false, false, false, false, false, false, false, false, false, false, false, false] rfl rfl (take_ofW HT_.out HW_.out (by kernel_rfl)) (fun _ _ _ h => h) (Or.inl ⟨by rfl, ?_⟩) hHeld ?_ ?_
                        rotate_left
                        · rintro w' ⟨s0, s1, s2, s3, s4, s5, s6, s7, s8, s9, s10, s11⟩
                          go_simp
                          with_reducible rfl
                        rotate_left
                        · simp only [Act.put, List.setIfInBounds_toArray, List.set_cons_zero, List.set_cons_succ, i64_w, i32_w, (show ∀ x : Int, IntKind.u8.wrap x = x % 256 from fun _ => rfl)]
                          rfl
                        refine take_ (i := 23) (N := some 60) (v := ?_) (a' := ?_) #[true, true, true, true, true, true, true, true, true, true, true, true, true, true, true, true, true, true, true, true, false, true, false, true, false, false, false, false, false, false, false, false, false, false, false, false, false, false, false] rfl rfl (take_ofW HT_.out HW_.out (by kernel_rfl)) (fun _ _ _ h => h) (Or.inl ⟨by rfl, ?_⟩) hHeld ?_ ?_
                        rotate_left
                        · rintro w' ⟨s0, s1, s2, s3, s4, s5, s6, s7, s8, s9, s10, s11⟩
                          go_simp
                          with_reducible rfl
                        rotate_left
                        · simp only [Act.put, List.setIfInBounds_toArray, List.set_cons_zero, List.set_cons_succ, i64_w, i32_w, (show ∀ x : Int, IntKind.u8.wrap x = x % 256 from fun _ => rfl)]
                          rfl
                        refine one_ (i := 20) (N := some 57) #[true, true, true, true, true, true, true, true, true, true, true, true, true, true, true, true, true, true, true, true, true, true, false, true, false, false, false, false, false, false, false, false, false, false, false, false, false, false, false] rfl rfl (one_of HT_.out (by kernel_rfl)) (by decide) (fun K hK => ?_)
                        refine goes_ Try.func19 (by kernel_rfl) rfl #[.agg #[.int .u64 t122, .int .u64 t123, .int .u64 t124, .int .u64 t125]] (by rfl) rfl rfl (by (try simp only [List.map_toArray, List.map_cons, List.map_nil]); first | done | rfl | (simp only [List.length_drop, List.length_take]; rfl)) ?_
                        with_reducible refine (fold_Set_Len.calls t122 t123 t124 t125 t139 _ A21.out).mono ?_
                        rintro e w52 ⟨rfl, hb⟩
                        refine ⟨_, rfl, ?_⟩
                        have n0_ := Aside0.mk (Kd.R_below (by (with_reducible repeat (first | apply Kd.R_alloc | apply Kd.R_drewN | apply Kd.R_drew)); exact HO121.out) hb)
                        have n1_ := Aside0.mk (blk_below (g := gb107) (o := .cells #[.int .u64 t103, .int .u64 t104, .int .u64 t105, .int .u64 t106] 31 (0, 0)) (by (with_reducible repeat (first | refine blk_drewN ?_ _ | refine blk_drew ?_ | refine blk_alloc ?_ _)); exact BK107.out) hb)
                        have n2_ := Aside0.mk (blk_below (g := gb112) (o := .cells #[.int .u64 t108, .int .u64 t109, .int .u64 t110, .int .u64 t111] 31 (0, 0)) (by (with_reducible repeat (first | refine blk_drewN ?_ _ | refine blk_drew ?_ | refine blk_alloc ?_ _)); exact BK112.out) hb)
                        have n3_ := Aside0.mk (blk_below (g := gb126) (o := .cells #[.int .u64 t122, .int .u64 t123, .int .u64 t124, .int .u64 t125] 31 (0, 0)) (by (with_reducible repeat (first | refine blk_drewN ?_ _ | refine blk_drew ?_ | refine blk_alloc ?_ _)); exact BK126.out) hb)
                        have n4_ := Aside0.mk (below_step (by repeat (first | (with_reducible first | exact HB.out | apply below_alloc | apply pw_below_drewN | apply below_drew1 | refine below_set ?_ GE107.out | refine below_set ?_ GE112.out | refine below_set ?_ GE126.out) | exact HB.out)) hb)
                        clear HO121
                        clear BK107
                        clear BK112
                        clear BK126
                        clear HB
                        have HO121 := n0_
                        have BK107 := n1_
                        have BK112 := n2_
                        have BK126 := n3_
                        have HB := n4_
                        clear n0_ n1_ n2_ n3_ n4_
                        (try clear hb)
                        (try clear hb2)
                        (try clear hk)
                        (try clear hi)
                        refine hK.out _ _ ⟨(blk_cell BK126.out 0).trans rfl, (blk_cell BK126.out 1).trans rfl, (blk_cell BK126.out 2).trans rfl, (blk_cell BK126.out 3).trans rfl, (blk_cell BK112.out 0).trans rfl, (blk_cell BK112.out 1).trans rfl, (blk_cell BK112.out 2).trans rfl, (blk_cell BK112.out 3).trans rfl, (blk_cell BK107.out 0).trans rfl, (blk_cell BK107.out 1).trans rfl, (blk_cell BK107.out 2).trans rfl, (blk_cell BK107.out 3).trans rfl⟩ (fun hHeld => ?_)
                        clear hK K
                        refine norm_ (a' := ?_) ?_ ?_
                        rotate_left
                        · show Act.put _ (some 57) _ = _
                          simp only [Act.put, List.setIfInBounds_toArray, List.set_cons_zero, List.set_cons_succ, i64_w, i32_w, (show ∀ x : Int, IntKind.u8.wrap x = x % 256 from fun _ => rfl)]
                          rfl
                        refine one_ (i := 22) (N := some 59) #[true, true, true, true, true, true, true, true, true, true, true, true, true, true, true, true, true, true, true, true, true, true, true, true, false, false, false, false, false, false, false, false, false, false, false, false, false, false, false] rfl rfl (one_of HT_.out (by kernel_rfl)) (by decide) (fun K hK => ?_)
                        refine goes_ Try.func19 (by kernel_rfl) rfl #[.agg #[.int .u64 t103, .int .u64 t104, .int .u64 t105, .int .u64 t106]] (by rfl) rfl rfl (by (try simp only [List.map_toArray, List.map_cons, List.map_nil]); first | done | rfl | (simp only [List.length_drop, List.length_take]; rfl)) ?_
                        with_reducible refine (fold_Set_Len.calls t103 t104 t105 t106 t140 _ A22.out).mono ?_
                        rintro e w53 ⟨rfl, hb⟩
                        refine ⟨_, rfl, ?_⟩
                        have n0_ := Aside0.mk (Kd.R_below (by (with_reducible repeat (first | apply Kd.R_alloc | apply Kd.R_drewN | apply Kd.R_drew)); exact HO121.out) hb)
                        have n1_ := Aside0.mk (blk_below (g := gb107) (o := .cells #[.int .u64 t103, .int .u64 t104, .int .u64 t105, .int .u64 t106] 31 (0, 0)) (by (with_reducible repeat (first | refine blk_drewN ?_ _ | refine blk_drew ?_ | refine blk_alloc ?_ _)); exact BK107.out) hb)
                        have n2_ := Aside0.mk (blk_below (g := gb112) (o := .cells #[.int .u64 t108, .int .u64 t109, .int .u64 t110, .int .u64 t111] 31 (0, 0)) (by (with_reducible repeat (first | refine blk_drewN ?_ _ | refine blk_drew ?_ | refine blk_alloc ?_ _)); exact BK112.out) hb)
                        have n3_ := Aside0.mk (blk_below (g := gb126) (o := .cells #[.int .u64 t122, .int .u64 t123, .int .u64 t124, .int .u64 t125] 31 (0, 0)) (by (with_reducible repeat (first | refine blk_drewN ?_ _ | refine blk_drew ?_ | refine blk_alloc ?_ _)); exact BK126.out) hb)
                        have n4_ := Aside0.mk (below_step (by repeat (first | (with_reducible first | exact HB.out | apply below_alloc | apply pw_below_drewN | apply below_drew1 | refine below_set ?_ GE107.out | refine below_set ?_ GE112.out | refine below_set ?_ GE126.out) | exact HB.out)) hb)
                        clear HO121
                        clear BK107
                        clear BK112
                        clear BK126
                        clear HB
                        have HO121 := n0_
                        have BK107 := n1_
                        have BK112 := n2_
                        have BK126 := n3_
                        have HB := n4_
                        clear n0_ n1_ n2_ n3_ n4_
                        (try clear hb)
                        (try clear hb2)
                        (try clear hk)
                        (try clear hi)
                        refine hK.out _ _ ⟨(blk_cell BK126.out 0).trans rfl, (blk_cell BK126.out 1).trans rfl, (blk_cell BK126.out 2).trans rfl, (blk_cell BK126.out 3).trans rfl, (blk_cell BK112.out 0).trans rfl, (blk_cell BK112.out 1).trans rfl, (blk_cell BK112.out 2).trans rfl, (blk_cell BK112.out 3).trans rfl, (blk_cell BK107.out 0).trans rfl, (blk_cell BK107.out 1).trans rfl, (blk_cell BK107.out 2).trans rfl, (blk_cell BK107.out 3).trans rfl⟩ (fun hHeld => ?_)
                        clear hK K
                        refine norm_ (a' := ?_) ?_ ?_
                        rotate_left
                        · show Act.put _ (some 59) _ = _
                          simp only [Act.put, List.setIfInBounds_toArray, List.set_cons_zero, List.set_cons_succ, i64_w, i32_w, (show ∀ x : Int, IntKind.u8.wrap x = x % 256 from fun _ => rfl)]
                          rfl
                        refine one_ (i := 24) (N := some 61) #[true, true, true, true, true, true, true, true, true, true, true, true, true, true, true, true, true, true, true, true, true, true, true, true, true, false, false, false, false, false, false, false, false, false, false, false, false, false, false] rfl rfl (one_of HT_.out (by kernel_rfl)) (by decide) (fun K hK => ?_)
                        refine goes_ Try.func19 (by kernel_rfl) rfl #[.agg #[.int .u64 t108, .int .u64 t109, .int .u64 t110, .int .u64 t111]] (by rfl) rfl rfl (by (try simp only [List.map_toArray, List.map_cons, List.map_nil]); first | done | rfl | (simp only [List.length_drop, List.length_take]; rfl)) ?_
                        with_reducible refine (fold_Set_Len.calls t108 t109 t110 t111 t141 _ A23.out).mono ?_
                        rintro e w54 ⟨rfl, hb⟩
                        refine ⟨_, rfl, ?_⟩
                        have n0_ := Aside0.mk (Kd.R_below (by (with_reducible repeat (first | apply Kd.R_alloc | apply Kd.R_drewN | apply Kd.R_drew)); exact HO121.out) hb)
                        have n1_ := Aside0.mk (blk_below (g := gb107) (o := .cells #[.int .u64 t103, .int .u64 t104, .int .u64 t105, .int .u64 t106] 31 (0, 0)) (by (with_reducible repeat (first | refine blk_drewN ?_ _ | refine blk_drew ?_ | refine blk_alloc ?_ _)); exact BK107.out) hb)
                        have n2_ := Aside0.mk (blk_below (g := gb112) (o := .cells #[.int .u64 t108, .int .u64 t109, .int .u64 t110, .int .u64 t111] 31 (0, 0)) (by (with_reducible repeat (first | refine blk_drewN ?_ _ | refine blk_drew ?_ | refine blk_alloc ?_ _)); exact BK112.out) hb)
                        have n3_ := Aside0.mk (blk_below (g := gb126) (o := .cells #[.int .u64 t122, .int .u64 t123, .int .u64 t124, .int .u64 t125] 31 (0, 0)) (by (with_reducible repeat (first | refine blk_drewN ?_ _ | refine blk_drew ?_ | refine blk_alloc ?_ _)); exact BK126.out) hb)
                        have n4_ := Aside0.mk (below_step (by repeat (first | (with_reducible first | exact HB.out | apply below_alloc | apply pw_below_drewN | apply below_drew1 | refine below_set ?_ GE107.out | refine below_set ?_ GE112.out | refine below_set ?_ GE126.out) | exact HB.out)) hb)
                        clear HO121
                        clear BK107
                        clear BK112
                        clear BK126
                        clear HB
                        have HO121 := n0_
                        have BK107 := n1_
                        have BK112 := n2_
                        have BK126 := n3_
                        have HB := n4_
                        clear n0_ n1_ n2_ n3_ n4_
                        (try clear hb)
                        (try clear hb2)
                        (try clear hk)
                        (try clear hi)
                        refine hK.out _ _ ⟨(blk_cell BK126.out 0).trans rfl, (blk_cell BK126.out 1).trans rfl, (blk_cell BK126.out 2).trans rfl, (blk_cell BK126.out 3).trans rfl, (blk_cell BK112.out 0).trans rfl, (blk_cell BK112.out 1).trans rfl, (blk_cell BK112.out 2).trans rfl, (blk_cell BK112.out 3).trans rfl, (blk_cell BK107.out 0).trans rfl, (blk_cell BK107.out 1).trans rfl, (blk_cell BK107.out 2).trans rfl, (blk_cell BK107.out 3).trans rfl⟩ (fun hHeld => ?_)
                        clear hK K
                        refine norm_ (a' := ?_) ?_ ?_
                        rotate_left
                        · show Act.put _ (some 61) _ = _
                          simp only [Act.put, List.setIfInBounds_toArray, List.set_cons_zero, List.set_cons_succ, i64_w, i32_w, (show ∀ x : Int, IntKind.u8.wrap x = x % 256 from fun _ => rfl)]
                          rfl
                        refine pure_ (i := 25) (N := some 62) (v := ?_) (a' := ?_) #[true, true, true, true, true, true, true, true, true, true, true, true, true, true, true, true, true, true, true, true, true, true, true, true, true, true, false, false, false, false, false, false, false, false, false, false, false, false, false] rfl rfl (any_of HT_.out (by kernel_rfl)) (fun _ _ _ h => h) (Or.inl ⟨by rfl, ?_⟩) ?_ ?_
                        rotate_left
                        · intro w'
                          go_simp
                          with_reducible rfl
                        rotate_left
                        · simp only [Act.put, List.setIfInBounds_toArray, List.set_cons_zero, List.set_cons_succ, i64_w, i32_w, (show ∀ x : Int, IntKind.u8.wrap x = x % 256 from fun _ => rfl)]
                          rfl
                        refine pure_ (i := 26) (N := some 63) (v := ?_) (a' := ?_) #[true, true, true, true, true, true, true, true, true, true, true, true, true, true, true, true, true, true, true, true, true, true, true, true, true, true, true, false, false, false, false, false, false, false, false, false, false, false, false] rfl rfl (any_of HT_.out (by kernel_rfl)) (fun _ _ _ h => h) (Or.inl ⟨by rfl, ?_⟩) ?_ ?_
                        rotate_left
                        · intro w'
                          go_simp
                          with_reducible rfl
                        rotate_left
                        · simp only [Act.put, List.setIfInBounds_toArray, List.set_cons_zero, List.set_cons_succ, i64_w, i32_w, (show ∀ x : Int, IntKind.u8.wrap x = x % 256 from fun _ => rfl)]
                          rfl
                        refine pure_ (i := 27) (N := some 64) (v := ?_) (a' := ?_) #[true, true, true, true, true, true, true, true, true, true, true, true, true, true, true, true, true, true, true, true, true, true, true, true, true, true, true, true, false, false, false, false, false, false, false, false, false, false, false] rfl rfl (any_of HT_.out (by kernel_rfl)) (fun _ _ _ h => h) (Or.inl ⟨by rfl, ?_⟩) ?_ ?_
                        rotate_left
                        · intro w'
                          go_simp
                          with_reducible rfl
                        rotate_left
                        · simp only [Act.put, List.setIfInBounds_toArray, List.set_cons_zero, List.set_cons_succ, i64_w, i32_w, (show ∀ x : Int, IntKind.u8.wrap x = x % 256 from fun _ => rfl)]
                          rfl
                        refine pure_ (i := 28) (N := some 65) (v := ?_) (a' := ?_) #[true, true, true, true, true, true, true, true, true, true, true, true, true, true, true, true, true, true, true, true, true, true, true, true, true, true, true, true, true, false, false, false, false, false, false, false, false, false, false] rfl rfl (any_of HT_.out (by kernel_rfl)) (fun _ _ _ h => h) (Or.inl ⟨by rfl, ?_⟩) ?_ ?_
                        rotate_left
                        · intro w'
                          go_simp
                          with_reducible rfl
                        rotate_left
                        · simp only [Act.put, List.setIfInBounds_toArray, List.set_cons_zero, List.set_cons_succ, i64_w, i32_w, (show ∀ x : Int, IntKind.u8.wrap x = x % 256 from fun _ => rfl)]
                          rfl
                        refine take_ (i := 29) (N := some 66) (v := ?_) (a' := ?_) #[true, true, true, true, true, true, true, true, true, true, true, true, true, true, true, true, true, true, true, true, true, true, true, true, true, true, true, true, true, true, false, false, false, false, false, false, false, false, false] rfl rfl (take_ofW HT_.out HW_.out (by kernel_rfl)) (fun _ _ _ h => h) (Or.inl ⟨by rfl, ?_⟩) hHeld ?_ ?_
                        rotate_left
                        · rintro w' ⟨s0, s1, s2, s3, s4, s5, s6, s7, s8, s9, s10, s11⟩
                          go_simp
                          with_reducible rfl
                        rotate_left
                        · simp only [Act.put, List.setIfInBounds_toArray, List.set_cons_zero, List.set_cons_succ, i64_w, i32_w, (show ∀ x : Int, IntKind.u8.wrap x = x % 256 from fun _ => rfl)]
                          rfl
                        refine take_ (i := 31) (N := some 68) (v := ?_) (a' := ?_) #[true, true, true, true, true, true, true, true, true, true, true, true, true, true, true, true, true, true, true, true, true, true, true, true, true, true, true, true, true, true, false, true, false, false, false, false, false, false, false] rfl rfl (take_ofW HT_.out HW_.out (by kernel_rfl)) (fun _ _ _ h => h) (Or.inl ⟨by rfl, ?_⟩) hHeld ?_ ?_
                        rotate_left
                        · rintro w' ⟨s0, s1, s2, s3, s4, s5, s6, s7, s8, s9, s10, s11⟩
                          go_simp
                          with_reducible rfl
                        rotate_left
                        · simp only [Act.put, List.setIfInBounds_toArray, List.set_cons_zero, List.set_cons_succ, i64_w, i32_w, (show ∀ x : Int, IntKind.u8.wrap x = x % 256 from fun _ => rfl)]
                          rfl
                        refine take_ (i := 33) (N := some 70) (v := ?_) (a' := ?_) #[true, true, true, true, true, true, true, true, true, true, true, true, true, true, true, true, true, true, true, true, true, true, true, true, true, true, true, true, true, true, false, true, false, true, false, false, false, false, false] rfl rfl (take_ofW HT_.out HW_.out (by kernel_rfl)) (fun _ _ _ h => h) (Or.inl ⟨by rfl, ?_⟩) hHeld ?_ ?_
                        rotate_left
                        · rintro w' ⟨s0, s1, s2, s3, s4, s5, s6, s7, s8, s9, s10, s11⟩
                          go_simp
                          with_reducible rfl
                        rotate_left
                        · simp only [Act.put, List.setIfInBounds_toArray, List.set_cons_zero, List.set_cons_succ, i64_w, i32_w, (show ∀ x : Int, IntKind.u8.wrap x = x % 256 from fun _ => rfl)]
                          rfl
                        refine one_ (i := 30) (N := some 67) #[true, true, true, true, true, true, true, true, true, true, true, true, true, true, true, true, true, true, true, true, true, true, true, true, true, true, true, true, true, true, true, true, false, true, false, false, false, false, false] rfl rfl (one_of HT_.out (by kernel_rfl)) (by decide) (fun K hK => ?_)
                        refine goes_ Try.func19 (by kernel_rfl) rfl #[.agg #[.int .u64 t122, .int .u64 t123, .int .u64 t124, .int .u64 t125]] (by rfl) rfl rfl (by (try simp only [List.map_toArray, List.map_cons, List.map_nil]); first | done | rfl | (simp only [List.length_drop, List.length_take]; rfl)) ?_
                        with_reducible refine (fold_Set_Len.calls t122 t123 t124 t125 t142 _ A25.out).mono ?_
                        rintro e w55 ⟨rfl, hb⟩
                        refine ⟨_, rfl, ?_⟩
                        have n0_ := Aside0.mk (Kd.R_below (by (with_reducible repeat (first | apply Kd.R_alloc | apply Kd.R_drewN | apply Kd.R_drew)); exact HO121.out) hb)
                        have n1_ := Aside0.mk (blk_below (g := gb107) (o := .cells #[.int .u64 t103, .int .u64 t104, .int .u64 t105, .int .u64 t106] 31 (0, 0)) (by (with_reducible repeat (first | refine blk_drewN ?_ _ | refine blk_drew ?_ | refine blk_alloc ?_ _)); exact BK107.out) hb)
                        have n2_ := Aside0.mk (blk_below (g := gb112) (o := .cells #[.int .u64 t108, .int .u64 t109, .int .u64 t110, .int .u64 t111] 31 (0, 0)) (by (with_reducible repeat (first | refine blk_drewN ?_ _ | refine blk_drew ?_ | refine blk_alloc ?_ _)); exact BK112.out) hb)
                        have n3_ := Aside0.mk (blk_below (g := gb126) (o := .cells #[.int .u64 t122, .int .u64 t123, .int .u64 t124, .int .u64 t125] 31 (0, 0)) (by (with_reducible repeat (first | refine blk_drewN ?_ _ | refine blk_drew ?_ | refine blk_alloc ?_ _)); exact BK126.out) hb)
                        have n4_ := Aside0.mk (below_step (by repeat (first | (with_reducible first | exact HB.out | apply below_alloc | apply pw_below_drewN | apply below_drew1 | refine below_set ?_ GE107.out | refine below_set ?_ GE112.out | refine below_set ?_ GE126.out) | exact HB.out)) hb)
                        clear HO121
                        clear BK107
                        clear BK112
                        clear BK126
                        clear HB
                        have HO121 := n0_
                        have BK107 := n1_
                        have BK112 := n2_
                        have BK126 := n3_
                        have HB := n4_
                        clear n0_ n1_ n2_ n3_ n4_
                        (try clear hb)
                        (try clear hb2)
                        (try clear hk)
                        (try clear hi)
                        refine hK.out _ _ ⟨(blk_cell BK126.out 0).trans rfl, (blk_cell BK126.out 1).trans rfl, (blk_cell BK126.out 2).trans rfl, (blk_cell BK126.out 3).trans rfl, (blk_cell BK112.out 0).trans rfl, (blk_cell BK112.out 1).trans rfl, (blk_cell BK112.out 2).trans rfl, (blk_cell BK112.out 3).trans rfl, (blk_cell BK107.out 0).trans rfl, (blk_cell BK107.out 1).trans rfl, (blk_cell BK107.out 2).trans rfl, (blk_cell BK107.out 3).trans rfl⟩ (fun hHeld => ?_)
                        clear hK K
                        refine norm_ (a' := ?_) ?_ ?_
                        rotate_left
                        · show Act.put _ (some 67) _ = _
                          simp only [Act.put, List.setIfInBounds_toArray, List.set_cons_zero, List.set_cons_succ, i64_w, i32_w, (show ∀ x : Int, IntKind.u8.wrap x = x % 256 from fun _ => rfl)]
                          rfl
                        refine one_ (i := 32) (N := some 69) #[true, true, true, true, true, true, true, true, true, true, true, true, true, true, true, true, true, true, true, true, true, true, true, true, true, true, true, true, true, true, true, true, true, true, false, false, false, false, false] rfl rfl (one_of HT_.out (by kernel_rfl)) (by decide) (fun K hK => ?_)
                        refine goes_ Try.func19 (by kernel_rfl) rfl #[.agg #[.int .u64 t103, .int .u64 t104, .int .u64 t105, .int .u64 t106]] (by rfl) rfl rfl (by (try simp only [List.map_toArray, List.map_cons, List.map_nil]); first | done | rfl | (simp only [List.length_drop, List.length_take]; rfl)) ?_
                        with_reducible refine (fold_Set_Len.calls t103 t104 t105 t106 t143 _ A26.out).mono ?_
                        rintro e w56 ⟨rfl, hb⟩
                        refine ⟨_, rfl, ?_⟩
                        have n0_ := Aside0.mk (Kd.R_below (by (with_reducible repeat (first | apply Kd.R_alloc | apply Kd.R_drewN | apply Kd.R_drew)); exact HO121.out) hb)
                        have n1_ := Aside0.mk (blk_below (g := gb107) (o := .cells #[.int .u64 t103, .int .u64 t104, .int .u64 t105, .int .u64 t106] 31 (0, 0)) (by (with_reducible repeat (first | refine blk_drewN ?_ _ | refine blk_drew ?_ | refine blk_alloc ?_ _)); exact BK107.out) hb)
                        have n2_ := Aside0.mk (blk_below (g := gb112) (o := .cells #[.int .u64 t108, .int .u64 t109, .int .u64 t110, .int .u64 t111] 31 (0, 0)) (by (with_reducible repeat (first | refine blk_drewN ?_ _ | refine blk_drew ?_ | refine blk_alloc ?_ _)); exact BK112.out) hb)
                        have n3_ := Aside0.mk (blk_below (g := gb126) (o := .cells #[.int .u64 t122, .int .u64 t123, .int .u64 t124, .int .u64 t125] 31 (0, 0)) (by (with_reducible repeat (first | refine blk_drewN ?_ _ | refine blk_drew ?_ | refine blk_alloc ?_ _)); exact BK126.out) hb)
                        have n4_ := Aside0.mk (below_step (by repeat (first | (with_reducible first | exact HB.out | apply below_alloc | apply pw_below_drewN | apply below_drew1 | refine below_set ?_ GE107.out | refine below_set ?_ GE112.out | refine below_set ?_ GE126.out) | exact HB.out)) hb)
                        clear HO121
                        clear BK107
                        clear BK112
                        clear BK126
                        clear HB
                        have HO121 := n0_
                        have BK107 := n1_
                        have BK112 := n2_
                        have BK126 := n3_
                        have HB := n4_
                        clear n0_ n1_ n2_ n3_ n4_
                        (try clear hb)
                        (try clear hb2)
                        (try clear hk)
                        (try clear hi)
                        refine hK.out _ _ ⟨(blk_cell BK126.out 0).trans rfl, (blk_cell BK126.out 1).trans rfl, (blk_cell BK126.out 2).trans rfl, (blk_cell BK126.out 3).trans rfl, (blk_cell BK112.out 0).trans rfl, (blk_cell BK112.out 1).trans rfl, (blk_cell BK112.out 2).trans rfl, (blk_cell BK112.out 3).trans rfl, (blk_cell BK107.out 0).trans rfl, (blk_cell BK107.out 1).trans rfl, (blk_cell BK107.out 2).trans rfl, (blk_cell BK107.out 3).trans rfl⟩ (fun hHeld => ?_)
                        clear hK K
                        refine norm_ (a' := ?_) ?_ ?_
                        rotate_left
                        · show Act.put _ (some 69) _ = _
                          simp only [Act.put, List.setIfInBounds_toArray, List.set_cons_zero, List.set_cons_succ, i64_w, i32_w, (show ∀ x : Int, IntKind.u8.wrap x = x % 256 from fun _ => rfl)]
                          rfl
                        refine one_ (i := 34) (N := some 71) #[true, true, true, true, true, true, true, true, true, true, true, true, true, true, true, true, true, true, true, true, true, true, true, true, true, true, true, true, true, true, true, true, true, true, true, false, false, false, false] rfl rfl (one_of HT_.out (by kernel_rfl)) (by decide) (fun K hK => ?_)
                        refine goes_ Try.func19 (by kernel_rfl) rfl #[.agg #[.int .u64 t108, .int .u64 t109, .int .u64 t110, .int .u64 t111]] (by rfl) rfl rfl (by (try simp only [List.map_toArray, List.map_cons, List.map_nil]); first | done | rfl | (simp only [List.length_drop, List.length_take]; rfl)) ?_
                        with_reducible refine (fold_Set_Len.calls t108 t109 t110 t111 t144 _ A27.out).mono ?_
                        rintro e w57 ⟨rfl, hb⟩
                        refine ⟨_, rfl, ?_⟩
                        have n0_ := Aside0.mk (Kd.R_below (by (with_reducible repeat (first | apply Kd.R_alloc | apply Kd.R_drewN | apply Kd.R_drew)); exact HO121.out) hb)
                        have n1_ := Aside0.mk (blk_below (g := gb107) (o := .cells #[.int .u64 t103, .int .u64 t104, .int .u64 t105, .int .u64 t106] 31 (0, 0)) (by (with_reducible repeat (first | refine blk_drewN ?_ _ | refine blk_drew ?_ | refine blk_alloc ?_ _)); exact BK107.out) hb)
                        have n2_ := Aside0.mk (blk_below (g := gb112) (o := .cells #[.int .u64 t108, .int .u64 t109, .int .u64 t110, .int .u64 t111] 31 (0, 0)) (by (with_reducible repeat (first | refine blk_drewN ?_ _ | refine blk_drew ?_ | refine blk_alloc ?_ _)); exact BK112.out) hb)
                        have n3_ := Aside0.mk (blk_below (g := gb126) (o := .cells #[.int .u64 t122, .int .u64 t123, .int .u64 t124, .int .u64 t125] 31 (0, 0)) (by (with_reducible repeat (first | refine blk_drewN ?_ _ | refine blk_drew ?_ | refine blk_alloc ?_ _)); exact BK126.out) hb)
                        have n4_ := Aside0.mk (below_step (by repeat (first | (with_reducible first | exact HB.out | apply below_alloc | apply pw_below_drewN | apply below_drew1 | refine below_set ?_ GE107.out | refine below_set ?_ GE112.out | refine below_set ?_ GE126.out) | exact HB.out)) hb)
                        clear HO121
                        clear BK107
                        clear BK112
                        clear BK126
                        clear HB
                        have HO121 := n0_
                        have BK107 := n1_
                        have BK112 := n2_
                        have BK126 := n3_
                        have HB := n4_
                        clear n0_ n1_ n2_ n3_ n4_
                        (try clear hb)
                        (try clear hb2)
                        (try clear hk)
                        (try clear hi)
                        refine hK.out _ _ ⟨(blk_cell BK126.out 0).trans rfl, (blk_cell BK126.out 1).trans rfl, (blk_cell BK126.out 2).trans rfl, (blk_cell BK126.out 3).trans rfl, (blk_cell BK112.out 0).trans rfl, (blk_cell BK112.out 1).trans rfl, (blk_cell BK112.out 2).trans rfl, (blk_cell BK112.out 3).trans rfl, (blk_cell BK107.out 0).trans rfl, (blk_cell BK107.out 1).trans rfl, (blk_cell BK107.out 2).trans rfl, (blk_cell BK107.out 3).trans rfl⟩ (fun hHeld => ?_)
                        clear hK K
                        refine norm_ (a' := ?_) ?_ ?_
                        rotate_left
                        · show Act.put _ (some 71) _ = _
                          simp only [Act.put, List.setIfInBounds_toArray, List.set_cons_zero, List.set_cons_succ, i64_w, i32_w, (show ∀ x : Int, IntKind.u8.wrap x = x % 256 from fun _ => rfl)]
                          rfl
                        refine pure_ (i := 35) (N := some 72) (v := ?_) (a' := ?_) #[true, true, true, true, true, true, true, true, true, true, true, true, true, true, true, true, true, true, true, true, true, true, true, true, true, true, true, true, true, true, true, true, true, true, true, true, false, false, false] rfl rfl (any_of HT_.out (by kernel_rfl)) (fun _ _ _ h => h) (Or.inl ⟨by rfl, ?_⟩) ?_ ?_
                        rotate_left
                        · intro w'
                          go_simp
                          with_reducible rfl
                        rotate_left
                        · simp only [Act.put, List.setIfInBounds_toArray, List.set_cons_zero, List.set_cons_succ, i64_w, i32_w, (show ∀ x : Int, IntKind.u8.wrap x = x % 256 from fun _ => rfl)]
                          rfl
                        refine pure_ (i := 36) (N := some 73) (v := ?_) (a' := ?_) #[true, true, true, true, true, true, true, true, true, true, true, true, true, true, true, true, true, true, true, true, true, true, true, true, true, true, true, true, true, true, true, true, true, true, true, true, true, false, false] rfl rfl (any_of HT_.out (by kernel_rfl)) (fun _ _ _ h => h) (Or.inl ⟨by rfl, ?_⟩) ?_ ?_
                        rotate_left
                        · intro w'
                          go_simp
                          with_reducible rfl
                        rotate_left
                        · simp only [Act.put, List.setIfInBounds_toArray, List.set_cons_zero, List.set_cons_succ, i64_w, i32_w, (show ∀ x : Int, IntKind.u8.wrap x = x % 256 from fun _ => rfl)]
                          rfl
                        refine pure_ (i := 37) (N := some 74) (v := ?_) (a' := ?_) #[true, true, true, true, true, true, true, true, true, true, true, true, true, true, true, true, true, true, true, true, true, true, true, true, true, true, true, true, true, true, true, true, true, true, true, true, true, true, false] rfl rfl (any_of HT_.out (by kernel_rfl)) (fun _ _ _ h => h) (Or.inl ⟨by rfl, ?_⟩) ?_ ?_
                        rotate_left
                        · intro w'
                          go_simp
                          with_reducible rfl
                        rotate_left
                        · simp only [Act.put, List.setIfInBounds_toArray, List.set_cons_zero, List.set_cons_succ, i64_w, i32_w, (show ∀ x : Int, IntKind.u8.wrap x = x % 256 from fun _ => rfl)]
                          rfl
                        refine pure_ (i := 38) (N := some 4) (v := ?_) (a' := ?_) #[true, true, true, true, true, true, true, true, true, true, true, true, true, true, true, true, true, true, true, true, true, true, true, true, true, true, true, true, true, true, true, true, true, true, true, true, true, true, true] rfl rfl (any_of HT_.out (by kernel_rfl)) (fun _ _ _ h => h) (Or.inl ⟨by rfl, ?_⟩) ?_ ?_
                        rotate_left
                        · intro w'
                          go_simp
                          with_reducible rfl
                        rotate_left
                        · simp only [Act.put, List.setIfInBounds_toArray, List.set_cons_zero, List.set_cons_succ, i64_w, i32_w, (show ∀ x : Int, IntKind.u8.wrap x = x % 256 from fun _ => rfl)]
                          rfl
                        refine done_ (done_of HT_.out (by kernel_rfl)) ?_
                        try go_wp2
                        go_ret
                        exact ⟨by first | rfl | (rw [hqA25.out] <;> rfl) | (rw [← hqA25.out] <;> rfl) | (rw [hqA26.out] <;> rfl) | (rw [← hqA26.out] <;> rfl) | (rw [hqA27.out] <;> rfl) | (rw [← hqA27.out] <;> rfl) | (simp [errW_none, errW_some] <;> rfl) | (simp only [← hji28]; first | rfl | (simp [errW_none, errW_some] <;> rfl)) | (simp [*, errW_none, errW_some] <;> rfl), by repeat (first | (with_reducible first | exact HB.out | apply below_alloc | apply pw_below_drewN | apply below_drew1 | refine below_set ?_ GE107.out | refine below_set ?_ GE112.out | refine below_set ?_ GE126.out) | exact HB.out)⟩
                      · rw [if_neg c24] at H
                        have c24b0 : decide (t139 ≤ (wrap64 (t140 + t141))) = false := decide_eq_false c24
                        clear c24
                        exact absurd H (by simp)
                    · rw [if_neg c20] at H
                      have c20b0 : (t135 == t122 && (t136 == t123 && (t137 == t124 && (t138 == t125)))) = false := by simpa using c20
                      (try (have c20b1 : decide (t135 = t122 && (t136 == t123 && (t137 == t124 && (t138 == t125)))) = false := by simpa using c20))
                      (try (have c20b2 : (t135 == t122 && (t136 == t123 && (t137 == t124 && (t138 == t125)))) = false := by simpa using c20))
                      (try (have c20b3 : ¬ (t135 = t122 && (t136 == t123 && (t137 == t124 && (t138 == t125)))) := by simpa using c20))
                      clear c20
                      exact absurd H (by simp)
                  · rw [if_neg c18] at H
                    have c18b0 : (t131 == t122 && (t132 == t123 && (t133 == t124 && (t134 == t125)))) = false := by simpa using c18
                    (try (have c18b1 : decide (t131 = t122 && (t132 == t123 && (t133 == t124 && (t134 == t125)))) = false := by simpa using c18))
                    (try (have c18b2 : (t131 == t122 && (t132 == t123 && (t133 == t124 && (t134 == t125)))) = false := by simpa using c18))
                    (try (have c18b3 : ¬ (t131 = t122 && (t132 == t123 && (t133 == t124 && (t134 == t125)))) := by simpa using c18))
                    clear c18
                    exact absurd H (by simp)
                · rw [if_neg c16] at H
                  have c16b0 : (t127 == t122 && (t128 == t123 && (t129 == t124 && (t130 == t125)))) = false := by simpa using c16
                  (try (have c16b1 : decide (t127 = t122 && (t128 == t123 && (t129 == t124 && (t130 == t125)))) = false := by simpa using c16))
                  (try (have c16b2 : (t127 == t122 && (t128 == t123 && (t129 == t124 && (t130 == t125)))) = false := by simpa using c16))
                  (try (have c16b3 : ¬ (t127 = t122 && (t128 == t123 && (t129 == t124 && (t130 == t125)))) := by simpa using c16))
                  clear c16
                  exact absurd H (by simp)
              · rw [if_neg c13] at H
                exact absurd H (by simp)
            · rw [if_neg c12] at H
              exact absurd H (by simp)
          · rw [if_neg c11] at H
            exact absurd H (by simp)
  · replace c4 := Bool.eq_false_iff.mpr c4
    subst c4
    have H1 : (none) = some r := by rw [if_neg (show ¬ (false = true) by decide)] at H; exact H
    clear H
    have H := H1
    clear H1
    exact absurd H (by simp)

/-- THE ONE PURE STATEMENT of seinelaw01_FoldJoins: yours. -/
def seinelaw01_FoldJoins.Pure : Prop := ∀ (l0 : List Int) (l1 : List Int), l0.length ≤ maxLen → l0.length * 1 ≤ 140737488351232 → (∀ x ∈ l0, (Lit.int .u8 x).wf = true) → l1.length ≤ maxLen → l1.length * 1 ≤ 140737488351232 → (∀ x ∈ l1, (Lit.int .u8 x).wf = true) → ∃ k, seinelaw01_FoldJoins.f k l0 l1 = some true
theorem seinelaw01_FoldJoins.walk (P : seinelaw01_FoldJoins.Pure) (a0 : Option Addr) (len0 cap0 : Nat) (z0 : List Int) (a1 : Option Addr) (len1 cap1 : Nat) (z1 : List Int) (w : World) (w0 : (a0 = none ∧ len0 = 0 ∧ cap0 = 0 ∧ z0 = []) ∨ ∃ x, a0 = some x ∧ len0 ≤ cap0 ∧ cap0 ≤ maxLen ∧ z0.length = cap0 ∧ (∀ i, i < z0.length → w.cell? (x.add i) = some (.int .u8 (z0.getD i 0))) ∧ ∀ n ∈ z0, (Lit.int .u8 n).wf = true) (y0 : len0 * 1 ≤ 140737488351232) (w1 : (a1 = none ∧ len1 = 0 ∧ cap1 = 0 ∧ z1 = []) ∨ ∃ x, a1 = some x ∧ len1 ≤ cap1 ∧ cap1 ≤ maxLen ∧ z1.length = cap1 ∧ (∀ i, i < z1.length → w.cell? (x.add i) = some (.int .u8 (z1.getD i 0))) ∧ ∀ n ∈ z1, (Lit.int .u8 n).wf = true) (y1 : len1 * 1 ≤ 140737488351232) :
    Calls Try.prog 6 #[.slice a0 len0 cap0, .slice a1 len1 cap1] w fun e w' => e = .returned (.bool true) ∧ Below w.heap.size w w' := by
  obtain ⟨l0, rfl, hr0, hm0, hw0, hc0⟩ := ReadsInt.ofRowC w0
  obtain ⟨l1, rfl, hr1, hm1, hw1, hc1⟩ := ReadsInt.ofRowC w1
  obtain ⟨k, h⟩ := P l0 l1 hm0 y0 hw0 hm1 y1 hw1
  refine (seinelaw01_FoldJoins.calls k _ _ l0 _ _ l1 true w (Kd.C_of_reads (d := (0 : Int)) (h1 := fun _ => rfl) hr0) hc0 (Kd.C_of_reads (d := (0 : Int)) (h1 := fun _ => rfl) hr1) hc1 h).mono ?_
  rintro e w' ⟨rfl, hd⟩
  exact ⟨rfl, hd⟩

end Go.Proofs.Ytaegjpabkkoleaa.PFoldJoins
