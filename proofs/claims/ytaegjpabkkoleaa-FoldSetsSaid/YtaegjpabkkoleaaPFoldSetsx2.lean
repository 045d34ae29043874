/- Functions of the translation and what they come to: laid by a program of this session (xprint.py) beside contracts proved by hand. No condition. -/
import Derived.Test.YtaegjpabkkoleaaPFoldSetsx0
import Derived.Test.YtaegjpabkkoleaaPFoldSetsx1
namespace Go.Proofs.Ytaegjpabkkoleaa.PFoldSets
open Go.RowKit Go.Proofs.YtaegjpabkkoleaaW.PrintWords Go.Proofs.YtaegjpabkkoleaaW.PrintLast Go.Proofs.YtaegjpabkkoleaaW.PrintMore
attribute [local go_sem] max2_int min2_int max_two min_two max_three min_three max_four min_four   -- for this text's walks alone
set_option linter.unusedVariables false
set_option linter.unusedSimpArgs false

/-- a row of bytes that a constant text was laid as -/
theorem const_reads (w : World) (xs : List Int) (e : TypeId) (fr : Nat × Nat) (hm : xs.length ≤ 9223372036854775807) :
    Kd.C (Kd.int .u8) (w.alloc (.cells (xs.map (Value.int .u8)).toArray e fr)) (some ⟨w.heap.size, 0, none⟩) xs.length xs := by
  refine Kd.C_of_reads (d := (0 : Int)) (h1 := fun _ => rfl) ⟨rfl, hm, fun _ => ⟨_, rfl, fun j hj => ?_⟩⟩
  rw [add_plain, World.cell?_alloc_mark]
  simp [List.getD_eq_getElem?_getD, List.getElem?_eq_getElem hj]
def ws0 : List Int := [0, 64, 65]
def ws1 : List Int := [65, 98, 95, 57]
def ws1' : List Int := [97, 98, 95, 57]
def ws2 : List Int := [97, 91]
def ws3 : List Int := [65]
section
attribute [local go_sem high] eq4
set_option maxHeartbeats 8000000 in
set_option maxRecDepth 100000 in
theorem awake_calls (w : World) :
    Calls Try.prog 9 #[] w fun e w' => e = .returned (.bool true) ∧ Below w.heap.size w w' := by
  have hu31 := Try.underlying31
  have kc := fun (w : World) (C : Array Value) (n c : Nat) => Lib.run_convert_bytes_const (P := Try.prog) w 22 5 C n c Try.underlying22 Try.underlying5
  have HOF := Aside0.mk (fun w => of_calls (some ⟨w.heap.size, 0, none⟩) 3 ws0 (w.alloc (.cells (ws0.map (Value.int .u8)).toArray 5 (0, 0))) (const_reads w ws0 5 (0, 0) (by decide)) (by decide) (by decide))
  have HS0 := Aside0.mk (show (ofS ws0).val = .agg #[.int .u64 1, .int .u64 3, .int .u64 0, .int .u64 0] by kernel_rfl)
  go_enter Try.func9, Try.ntmps9
  go_wp2_with fail
  refine (HOF.out w).mono ?_
  rintro e w1 ⟨rfl, hb⟩
  rw [HS0.out]
  have HB1 := Aside0.mk (below_step (below_alloc (Below.refl w.heap.size w) (.cells (ws0.map (Value.int .u8)).toArray 5 (0, 0))) hb)
  clear hb HOF HS0
  have kc1 := kc (w1.alloc (.cells #[.int .u64 1, .int .u64 3, .int .u64 0, .int .u64 0] 31)) #[.int .u8 65, .int .u8 98, .int .u8 95, .int .u8 57] 4 4
  rw [World.size_alloc] at kc1
  have hc1 := const_reads (w1.alloc (.cells #[.int .u64 1, .int .u64 3, .int .u64 0, .int .u64 0] 31)) ws1 5 (4, 5) (by decide)
  rw [World.size_alloc] at hc1
  have HBY := Aside0.mk (bytes_calls _ 4 ws1 _ hc1 (by decide) (by decide))
  have HBX := Aside0.mk (below_alloc (below_alloc HB1.out (.cells #[.int .u64 1, .int .u64 3, .int .u64 0, .int .u64 0] 31)) (.cells (ws1.map (Value.int .u8)).toArray 5 (4, 5)))
  have HBOX := Aside0.mk (blk_alloc (blk_new w1 (.cells #[.int .u64 1, .int .u64 3, .int .u64 0, .int .u64 0] 31)) (.cells (ws1.map (Value.int .u8)).toArray 5 (4, 5)))
  clear hc1
  go_wp2_with fail
  refine HBY.out.mono ?_
  rintro e w2 ⟨v2, rfl, hr2, hb2⟩
  rw [show ws1.map byteI = ws1' by decide] at hr2
  obtain ⟨A2, c2, rfl, hd2, hC2⟩ := Kd.R_reads hr2
  have hcv := Kd.C_string (P := Try.prog) (A := A2) (c := c2) Try.underlying22 Try.underlying5 Try.underlying9 hC2
  have hbox := blk_below HBOX.out hb2
  have k0 : w2.cell? ⟨w1.heap.size, 0, none⟩ = some (.int .u64 1) := (blk_cell hbox 0).trans rfl
  have k1 : w2.cell? ⟨w1.heap.size, 1, none⟩ = some (.int .u64 3) := (blk_cell hbox 1).trans rfl
  have k2 : w2.cell? ⟨w1.heap.size, 2, none⟩ = some (.int .u64 0) := (blk_cell hbox 2).trans rfl
  have k3 : w2.cell? ⟨w1.heap.size, 3, none⟩ = some (.int .u64 0) := (blk_cell hbox 3).trans rfl
  have hss : strOfNums ws1' = ⟨#[97, 98, 95, 57]⟩ := by decide +kernel
  rw [hss] at hcv
  clear hss
  have HBOX2 := Aside0.mk hbox
  have HB2 := Aside0.mk (below_step HBX.out hb2)
  clear hr2 hb2 hC2 hd2 hbox kc1 HBOX HBX HBY
  have HH1 := Aside0.mk (fun w => (show hasS ⟨1, 3, 0, 0⟩ 65 = true by kernel_rfl) ▸ has_calls ⟨1, 3, 0, 0⟩ 65 w (by decide) (by decide))
  have HH2 := Aside0.mk (fun w => (show hasS ⟨1, 3, 0, 0⟩ 66 = false by kernel_rfl) ▸ has_calls ⟨1, 3, 0, 0⟩ 66 w (by decide) (by decide))
  have HLN := Aside0.mk (fun w => (show lenS ⟨1, 3, 0, 0⟩ = 3 by decide +kernel) ▸ len_calls ⟨1, 3, 0, 0⟩ w)
  have HW1 := Aside0.mk (fun w => fold_Word.calls 95 true w (by decide +kernel))
  have HW2 := Aside0.mk (fun w => fold_Word.calls 45 false w (by decide +kernel))
  have HBT := Aside0.mk (fun w => fold_Byte.calls 90 122 w (by decide +kernel))
  have HF1 := Aside0.mk (fun w => fold_Fixed.calls (some ⟨w.heap.size, 0, none⟩) 2 ws2 true (w.alloc (.cells (ws2.map (Value.int .u8)).toArray 5 (2, 3))) (const_reads w ws2 5 (2, 3) (by decide)) (by decide) (by decide +kernel))
  have HF2 := Aside0.mk (fun w => fold_Fixed.calls (some ⟨w.heap.size, 0, none⟩) 1 ws3 false (w.alloc (.cells (ws3.map (Value.int .u8)).toArray 5 (1, 2))) (const_reads w ws3 5 (1, 2) (by decide)) (by decide) (by decide +kernel))
  go_wp2_with fail
  refine (HH1.out _).mono ?_
  rintro e w3 ⟨rfl, hb⟩
  have HBOX3 := Aside0.mk (blk_below HBOX2.out hb)
  have HB3 := Aside0.mk (below_step HB2.out hb)
  clear hb k0 k1 k2 k3
  have k0 : w3.cell? ⟨w1.heap.size, 0, none⟩ = some (.int .u64 1) := (blk_cell HBOX3.out 0).trans rfl
  have k1 : w3.cell? ⟨w1.heap.size, 1, none⟩ = some (.int .u64 3) := (blk_cell HBOX3.out 1).trans rfl
  have k2 : w3.cell? ⟨w1.heap.size, 2, none⟩ = some (.int .u64 0) := (blk_cell HBOX3.out 2).trans rfl
  have k3 : w3.cell? ⟨w1.heap.size, 3, none⟩ = some (.int .u64 0) := (blk_cell HBOX3.out 3).trans rfl
  go_wp2_with fail
  refine (HH2.out _).mono ?_
  rintro e w4 ⟨rfl, hb⟩
  have HBOX4 := Aside0.mk (blk_below HBOX3.out hb)
  have HB4 := Aside0.mk (below_step HB3.out hb)
  clear hb k0 k1 k2 k3
  have k0 : w4.cell? ⟨w1.heap.size, 0, none⟩ = some (.int .u64 1) := (blk_cell HBOX4.out 0).trans rfl
  have k1 : w4.cell? ⟨w1.heap.size, 1, none⟩ = some (.int .u64 3) := (blk_cell HBOX4.out 1).trans rfl
  have k2 : w4.cell? ⟨w1.heap.size, 2, none⟩ = some (.int .u64 0) := (blk_cell HBOX4.out 2).trans rfl
  have k3 : w4.cell? ⟨w1.heap.size, 3, none⟩ = some (.int .u64 0) := (blk_cell HBOX4.out 3).trans rfl
  go_wp2_with fail
  refine (HLN.out _).mono ?_
  rintro e w5 ⟨rfl, hb⟩
  have HB5 := Aside0.mk (below_step HB4.out hb)
  clear hb k0 k1 k2 k3
  go_wp2_with fail
  refine (HW1.out _).mono ?_
  rintro e w6 ⟨rfl, hd⟩
  have HB6 := Aside0.mk (below_step HB5.out hd.below)
  clear hd
  go_wp2_with fail
  refine (HW2.out _).mono ?_
  rintro e w7 ⟨rfl, hd⟩
  have HB7 := Aside0.mk (below_step HB6.out hd.below)
  clear hd
  go_wp2_with fail
  refine (HBT.out _).mono ?_
  rintro e w8 ⟨rfl, hd⟩
  have HB8 := Aside0.mk (below_step HB7.out hd.below)
  clear hd
  go_wp2_with fail
  refine (HF1.out _).mono ?_
  rintro e w9 ⟨rfl, hd⟩
  have HB9 := Aside0.mk (below_step (below_alloc HB8.out _) hd.below)
  clear hd
  go_wp2_with fail
  refine (HF2.out _).mono ?_
  rintro e w10 ⟨rfl, hd⟩
  have HB10 := Aside0.mk (below_step (below_alloc HB9.out _) hd.below)
  clear hd
  go_wp2
  go_ret
  exact ⟨rfl, HB10.out⟩
end
def seinelaw01_awake.f : Option Bool := some true
theorem seinelaw01_awake.calls (r : Bool) (w : World) (h : seinelaw01_awake.f = some r) :
    Calls Try.prog 9 #[] w fun e w' => e = .returned (.bool r) ∧ Below w.heap.size w w' := by
  obtain rfl := Option.some.inj h
  exact awake_calls w

def fold_Set_Union.f (a0_0 : Int) (a0_1 : Int) (a0_2 : Int) (a0_3 : Int) (a1_0 : Int) (a1_1 : Int) (a1_2 : Int) (a1_3 : Int) : Option (Int × Int × Int × Int) := some (unionS ⟨a0_0, a0_1, a0_2, a0_3⟩ ⟨a1_0, a1_1, a1_2, a1_3⟩).tup
theorem fold_Set_Union.calls (a0_0 : Int) (a0_1 : Int) (a0_2 : Int) (a0_3 : Int) (a1_0 : Int) (a1_1 : Int) (a1_2 : Int) (a1_3 : Int) (r1 : Int) (r2 : Int) (r3 : Int) (r4 : Int) (w : World) (h : fold_Set_Union.f a0_0 a0_1 a0_2 a0_3 a1_0 a1_1 a1_2 a1_3 = some (r1, r2, r3, r4)) :
    Calls Try.prog 18 #[.agg #[.int .u64 a0_0, .int .u64 a0_1, .int .u64 a0_2, .int .u64 a0_3], .agg #[.int .u64 a1_0, .int .u64 a1_1, .int .u64 a1_2, .int .u64 a1_3]] w fun e w' => e = .returned (.agg #[.int .u64 r1, .int .u64 r2, .int .u64 r3, .int .u64 r4]) ∧ Below w.heap.size w w' := by
  unfold fold_Set_Union.f at h
  rw [← SS.val_of (Option.some.inj h)]
  exact union_calls ⟨a0_0, a0_1, a0_2, a0_3⟩ ⟨a1_0, a1_1, a1_2, a1_3⟩ w

/-! ### seineref01_In: function 23 -/
def seineref01_In.l0 : Nat → ByteArray → Int → Int → Option (Bool)
  | 0, _, _, _ => none
  | k + 1, x0, x1, x5 => if x5 < (x0.size : Int) then (if 0 ≤ x5 then (if (bt x0 x5) = x1 then (some true) else (seineref01_In.l0 k x0 x1 (wrap64 (x5 + 1)))) else (none)) else (some false)
def seineref01_In.f (k : Nat) (a0 : ByteArray) (a1 : Int) : Option (Bool) := seineref01_In.l0 k a0 a1 0
theorem seineref01_In.mono_l : ∀ k, (∀ y0 y1 y2, LeO (seineref01_In.l0 k y0 y1 y2) (seineref01_In.l0 (k + 1) y0 y1 y2))
  | 0 => fun _ _ _ r h => by simp [seineref01_In.l0] at h
  | k + 1 => by
    have ih0 := seineref01_In.mono_l k
    · intro y0 y1 y2
      unfold seineref01_In.l0
      repeat' first
      | (with_reducible exact ih0 _ _ _)
      | (with_reducible exact LeO.refl _)
      | (with_reducible exact LeO.none _)
      | (with_reducible refine LeO.ite ?_ ?_)
      | (with_reducible refine LeO.bind ?_ (fun _ => ?_))
      | exact ih0 _ _ _
      | exact LeO.none _
      | refine LeO.ite ?_ ?_
      | refine LeO.bind ?_ (fun _ => ?_)
theorem seineref01_In.mono : ∀ a0 a1 k, LeO (seineref01_In.f k a0 a1) (seineref01_In.f (k + 1) a0 a1) := by
  intro a0 a1 k
  have ih0 := seineref01_In.mono_l k
  unfold seineref01_In.f
  repeat' first
      | (with_reducible exact ih0 _ _ _)
      | (with_reducible exact LeO.refl _)
      | (with_reducible exact LeO.none _)
      | (with_reducible refine LeO.ite ?_ ?_)
      | (with_reducible refine LeO.bind ?_ (fun _ => ?_))
      | exact ih0 _ _ _
      | exact LeO.none _
      | refine LeO.ite ?_ ?_
      | refine LeO.bind ?_ (fun _ => ?_)
set_option maxHeartbeats 8000000 in
set_option maxRecDepth 100000 in
theorem seineref01_In.calls (k : Nat) (a0 : ByteArray) (a1 : Int) (r : Bool) (w : World) (h : seineref01_In.f k a0 a1 = some r) :
    Calls Try.prog 23 #[.string a0, .int .u8 a1] w fun e w' => e = .returned (.bool r) ∧ Drawn0 w w' := by
  have H : (seineref01_In.l0 k a0 a1 0) = some r := h
  clear h
  have H' := Aside0.mk H
  clear H
  go_enter Try.func23, Try.ntmps23
  go_wp2
  go_loopg [5] k (fun kq v5 w' => ∃ (x5_1 : Int), v5 = .int .i64 x5_1 ∧ Aside0 (seineref01_In.l0 kq a0 a1 x5_1 = some r) ∧ Aside0 (kq ≤ k) ∧ Drawn0 w w')
  case atStart => exact ⟨(0), (by first | rfl | (simp; done) | (simp [*]; done) | (simp; exact (by intro a b; cases a <;> cases b <;> rfl : ∀ a b : Bool, (a == b) = (!(a != b))) _ _)), H', ⟨Nat.le_refl _⟩, by repeat (first | exact Drawn0.refl _ | apply Drawn0.step)⟩
  case round =>
    clear H'
    try clear c2
    try clear p2
    obtain ⟨x5_1, rfl, HA, HK1, ⟨m1, rfl⟩⟩ := hrel
    cases gk with
    | zero => exact absurd HA.out (by simp [seineref01_In.l0])
    | succ k1 =>
      have H := HA.out
      clear HA
      simp only [seineref01_In.l0] at H
      by_cases c3 : x5_1 < (a0.size : Int)
      · rw [if_pos c3] at H
        have c3b0 : decide (x5_1 < (a0.size : Int)) = true := decide_eq_true c3
        clear c3
        by_cases c4 : 0 ≤ x5_1
        · rw [if_pos c4] at H
          have c4b0 : decide (0 ≤ x5_1) = true := decide_eq_true c4
          clear c4
          by_cases c6 : (bt a0 x5_1) = a1
          · rw [if_pos c6] at H
            have c6b0 : ((bt a0 x5_1) == a1) = true := beq_iff_eq.mpr c6
            have c6b1 : ((bt a0 x5_1) != a1) = false := bne_eq_false_iff_eq.mpr c6
            clear c6
            obtain rfl := Option.some.inj H
            have p5 : 0 ≤ (x5_1 : Int) := of_decide_eq_true (by first | (with_reducible assumption) | assumption)
            have q5 : x5_1 < (a0.size : Int) := of_decide_eq_true (by first | (with_reducible assumption) | assumption)
            have hx5 := bt_at a0 x5_1
            replace p5 := eq_true p5
            replace q5 := eq_true q5
            go_wp2
            go_ret
            exact ⟨by first | rfl | (simp; done) | (simp [*]; done) | (simp; exact (by intro a b; cases a <;> cases b <;> rfl : ∀ a b : Bool, (a == b) = (!(a != b))) _ _), by repeat (first | exact Drawn0.refl _ | apply Drawn0.step)⟩
          · rw [if_neg c6] at H
            have c6b0 : ((bt a0 x5_1) == a1) = false := beq_eq_false_iff_ne.mpr c6
            have c6b1 : ((bt a0 x5_1) != a1) = true := bne_iff_ne.mpr c6
            have H' := Aside0.mk H
            clear H
            have p5 : 0 ≤ (x5_1 : Int) := of_decide_eq_true (by first | (with_reducible assumption) | assumption)
            have q5 : x5_1 < (a0.size : Int) := of_decide_eq_true (by first | (with_reducible assumption) | assumption)
            have hx5 := bt_at a0 x5_1
            replace p5 := eq_true p5
            replace q5 := eq_true q5
            go_wp2
            go_roundg k1
            case measure => have := HK1.out; omega
            case rel => exact ⟨(wrap64 (x5_1 + 1)), (by first | rfl | (simp; done) | (simp [*]; done) | (simp; exact (by intro a b; cases a <;> cases b <;> rfl : ∀ a b : Bool, (a == b) = (!(a != b))) _ _)), H', ⟨by have := HK1.out; omega⟩, by repeat (first | exact Drawn0.refl _ | apply Drawn0.step)⟩
        · rw [if_neg c4] at H
          exact absurd H (by simp)
      · rw [if_neg c3] at H
        have c3b0 : decide (x5_1 < (a0.size : Int)) = false := decide_eq_false c3
        clear c3
        obtain rfl := Option.some.inj H
        go_wp2
        go_ret
        exact ⟨by first | rfl | (simp; done) | (simp [*]; done) | (simp; exact (by intro a b; cases a <;> cases b <;> rfl : ∀ a b : Bool, (a == b) = (!(a != b))) _ _), by repeat (first | exact Drawn0.refl _ | apply Drawn0.step)⟩

/-! ### seineref01_List: function 21 -/
def seineref01_List.l0 : Nat → ByteArray → ByteArray → Int → Option (ByteArray)
  | 0, _, _, _ => none
  | k + 1, x0, x3, x4 => if x4 < 256 then ((seineref01_In.f k x0 ((x4) % 256)).bind fun t102 => (if t102 = true then ((some (([(x4) % 256] : List Int) : List Int)).bind fun y103 => (if x3.size + (strOfNums y103).size ≤ 9223372036854775807 then (seineref01_List.l0 k x0 (x3 ++ (strOfNums y103)) (wrap64 (x4 + 1))) else (none))) else (seineref01_List.l0 k x0 x3 (wrap64 (x4 + 1))))) else (some x3)
def seineref01_List.f (k : Nat) (a0 : ByteArray) : Option (ByteArray) := seineref01_List.l0 k a0 (⟨#[]⟩ : ByteArray) 0
theorem seineref01_List.mono_l : ∀ k, (∀ y0 y1 y2, LeO (seineref01_List.l0 k y0 y1 y2) (seineref01_List.l0 (k + 1) y0 y1 y2))
  | 0 => fun _ _ _ r h => by simp [seineref01_List.l0] at h
  | k + 1 => by
    have ih0 := seineref01_List.mono_l k
    · intro y0 y1 y2
      unfold seineref01_List.l0
      repeat' first
      | (with_reducible exact ih0 _ _ _)
      | (with_reducible exact seineref01_In.mono _ _ _)
      | (with_reducible exact LeO.refl _)
      | (with_reducible exact LeO.none _)
      | (with_reducible refine LeO.ite ?_ ?_)
      | (with_reducible refine LeO.bind ?_ (fun _ => ?_))
      | exact ih0 _ _ _
      | exact seineref01_In.mono _ _ _
      | exact LeO.none _
      | refine LeO.ite ?_ ?_
      | refine LeO.bind ?_ (fun _ => ?_)
theorem seineref01_List.mono : ∀ a0 k, LeO (seineref01_List.f k a0) (seineref01_List.f (k + 1) a0) := by
  intro a0 k
  have ih0 := seineref01_List.mono_l k
  unfold seineref01_List.f
  repeat' first
      | (with_reducible exact ih0 _ _ _)
      | (with_reducible exact seineref01_In.mono _ _ _)
      | (with_reducible exact LeO.refl _)
      | (with_reducible exact LeO.none _)
      | (with_reducible refine LeO.ite ?_ ?_)
      | (with_reducible refine LeO.bind ?_ (fun _ => ?_))
      | exact ih0 _ _ _
      | exact seineref01_In.mono _ _ _
      | exact LeO.none _
      | refine LeO.ite ?_ ?_
      | refine LeO.bind ?_ (fun _ => ?_)
set_option maxHeartbeats 8000000 in
set_option maxRecDepth 100000 in
theorem seineref01_List.calls (k : Nat) (a0 : ByteArray) (r : ByteArray) (w : World) (h : seineref01_List.f k a0 = some r) :
    Calls Try.prog 21 #[.string a0] w fun e w' => e = .returned (.string r) ∧ Below w.heap.size w w' := by
  have HB := Aside0.mk (Below.refl w.heap.size w)
  have H : (seineref01_List.l0 k a0 (⟨#[]⟩ : ByteArray) 0) = some r := h
  clear h
  have H' := Aside0.mk H
  clear H
  go_enter Try.func21, Try.ntmps21
  go_wp2
  go_loopg [3, 4] k (fun kq v3 v4 w' => ∃ (x3_1 : ByteArray) (x4_1 : Int), v3 = .string x3_1 ∧ v4 = .int .i64 x4_1 ∧ Aside0 (seineref01_List.l0 kq a0 x3_1 x4_1 = some r) ∧ Aside0 (kq ≤ k) ∧ Aside0 (Below w.heap.size w w'))
  case atStart => exact ⟨((⟨#[]⟩ : ByteArray)), (0), (by first | rfl | (simp; done) | (simp [*]; done) | (simp; exact (by intro a b; cases a <;> cases b <;> rfl : ∀ a b : Bool, (a == b) = (!(a != b))) _ _)), (by first | rfl | (simp; done) | (simp [*]; done) | (simp; exact (by intro a b; cases a <;> cases b <;> rfl : ∀ a b : Bool, (a == b) = (!(a != b))) _ _)), H', ⟨Nat.le_refl _⟩, ⟨by repeat (first | (with_reducible first | exact HB.out | apply below_alloc | apply pw_below_drewN | apply below_drew1) | exact HB.out)⟩⟩
  case round =>
    clear H'
    obtain ⟨x3_1, x4_1, rfl, rfl, HA, HK1, HB⟩ := hrel
    cases gk with
    | zero => exact absurd HA.out (by simp [seineref01_List.l0])
    | succ k1 =>
      have H := HA.out
      clear HA
      simp only [seineref01_List.l0] at H
      by_cases c2 : x4_1 < 256
      · rw [if_pos c2] at H
        have c2b0 : decide (x4_1 < 256) = true := decide_eq_true c2
        clear c2
        replace H := Option.bind_eq_some_iff.mp H
        obtain ⟨t102, A30, H⟩ := H
        replace H : (if t102 = true then ((some (([(x4_1) % 256] : List Int) : List Int)).bind fun y103 => (if x3_1.size + (strOfNums y103).size ≤ 9223372036854775807 then (seineref01_List.l0 k1 a0 (x3_1 ++ (strOfNums y103)) (wrap64 (x4_1 + 1))) else (none))) else (seineref01_List.l0 k1 a0 x3_1 (wrap64 (x4_1 + 1)))) = some r := H
        have A3 := Aside0.mk A30
        clear A30
        by_cases c4 : t102 = true
        · subst c4
          have H1 : ((some (([(x4_1) % 256] : List Int) : List Int)).bind fun y103 => (if x3_1.size + (strOfNums y103).size ≤ 9223372036854775807 then (seineref01_List.l0 k1 a0 (x3_1 ++ (strOfNums y103)) (wrap64 (x4_1 + 1))) else (none))) = some r := by rw [if_pos rfl] at H; exact H
          clear H
          have H := H1
          clear H1
          obtain ⟨y103, hy103⟩ : ∃ y_ : List Int, y_ = (([(x4_1) % 256] : List Int)) := ⟨_, rfl⟩
          replace H : (if x3_1.size + (strOfNums y103).size ≤ 9223372036854775807 then (seineref01_List.l0 k1 a0 (x3_1 ++ (strOfNums y103)) (wrap64 (x4_1 + 1))) else (none)) = some r := by first | (rw [hy103]; with_reducible exact H) | (have H2_ := (Option.bind_some _ _).symm.trans H; rw [hy103]; with_reducible exact H2_) | (have H2_ := (Option.bind_some _ _).symm.trans H; with_reducible exact H2_) | with_reducible exact H | (rw [hy103]; exact H) | exact H
          have Ny103 := Aside0.mk hy103
          clear hy103
          by_cases c5 : x3_1.size + (strOfNums y103).size ≤ 9223372036854775807
          · rw [if_pos c5] at H
            have c5b0 := eq_true c5
            have c5b1 : decide (x3_1.size + (strOfNums y103).size ≤ 9223372036854775807) = true := decide_eq_true c5
            try have c5b2 : (9223372036854775807 < x3_1.size + (strOfNums y103).size) = False := eq_false (Nat.not_lt.2 c5)
            have H' := Aside0.mk H
            clear H
            go_wp2_with (first | ((with_reducible refine gate_callee (f := 23) rfl ?_); refine goesL_ (some 12) rfl rfl Try.func23 (by kernel_rfl) rfl #[.string a0, .int .u8 ((x4_1) % 256)] rfl (by (try simp only [List.map_toArray, List.map_cons, List.map_nil]); first | done | rfl | (simp only [List.length_drop, List.length_take]; rfl)) ?_; (with_reducible refine (seineref01_In.calls k1 a0 ((x4_1) % 256) true _ A3.out).mono ?_); rintro e w' ⟨rfl, ⟨nd, rfl⟩⟩; refine ⟨_, rfl, ?_⟩) | ((with_reducible refine gate_dst (N := 16) rfl ?_); refine Kd.R_lit (Kd.int .u8) _ 5 ?hg (N := 16) ?hd (xs := ([(x4_1) % 256] : List Int)) (inner := [.int .u8 ((x4_1) % 256)]) (ok := fun _ => True) (okp := fun _ => True) ?hr ?hp (fun _ hk => hk) trivial (Below.refl _ _) (Nat.le_refl _) (by simp) ?_; (case hd => rfl); (case hg => rfl); (case hr => first | (go_simp; done) | (go_simp; rfl)); (case hp => exact (Reps.one (show Kd.M (Kd.int .u8) _ _ _ ((x4_1) % 256) [.int .u8 ((x4_1) % 256)] from rfl) (Reps.none _ _))); intro v104 w6 ho7 hb hg_ hnew_; clear hg_ hnew_; (first | rw [← Ny103.out] at ho7 | (simp only [Int.reduceToNat] at ho7; rw [← Ny103.out] at ho7)); have n0_ := Aside0.mk (Kd.R_lower ho7 (below_size (by repeat (first | (with_reducible first | exact HB.out | apply below_alloc | apply pw_below_drewN | apply below_drew1) | exact HB.out)))); have n1_ := Aside0.mk (below_step (by repeat (first | (with_reducible first | exact HB.out | apply below_alloc | apply pw_below_drewN | apply below_drew1) | exact HB.out)) hb); clear HB; have HO105 := n0_; have HB := n1_; clear n0_ n1_; clear hb ho7; have hcv8 := own_string (P := Try.prog) Try.underlying22 Try.underlying5 Try.underlying9 (Kd.own_of_R HO105.out)))
            go_roundg k1
            case measure => have := HK1.out; omega
            case rel => exact ⟨(x3_1 ++ (strOfNums y103)), (wrap64 (x4_1 + 1)), (by first | rfl | (simp; done) | (simp [*]; done) | (simp; exact (by intro a b; cases a <;> cases b <;> rfl : ∀ a b : Bool, (a == b) = (!(a != b))) _ _)), (by first | rfl | (simp; done) | (simp [*]; done) | (simp; exact (by intro a b; cases a <;> cases b <;> rfl : ∀ a b : Bool, (a == b) = (!(a != b))) _ _)), H', ⟨by have := HK1.out; omega⟩, ⟨by repeat (first | (with_reducible first | exact HB.out | apply below_alloc | apply pw_below_drewN | apply below_drew1) | exact HB.out)⟩⟩
          · rw [if_neg c5] at H
            exact absurd H (by simp)
        · replace c4 := Bool.eq_false_iff.mpr c4
          subst c4
          have H1 : (seineref01_List.l0 k1 a0 x3_1 (wrap64 (x4_1 + 1))) = some r := by rw [if_neg (show ¬ (false = true) by decide)] at H; exact H
          clear H
          have H := H1
          clear H1
          have H' := Aside0.mk H
          clear H
          go_wp2_with (first | ((with_reducible refine gate_callee (f := 23) rfl ?_); refine goesL_ (some 12) rfl rfl Try.func23 (by kernel_rfl) rfl #[.string a0, .int .u8 ((x4_1) % 256)] rfl (by (try simp only [List.map_toArray, List.map_cons, List.map_nil]); first | done | rfl | (simp only [List.length_drop, List.length_take]; rfl)) ?_; (with_reducible refine (seineref01_In.calls k1 a0 ((x4_1) % 256) false _ A3.out).mono ?_); rintro e w' ⟨rfl, ⟨nd, rfl⟩⟩; refine ⟨_, rfl, ?_⟩))
          go_roundg k1
          case measure => have := HK1.out; omega
          case rel => exact ⟨(x3_1), (wrap64 (x4_1 + 1)), (by first | rfl | (simp; done) | (simp [*]; done) | (simp; exact (by intro a b; cases a <;> cases b <;> rfl : ∀ a b : Bool, (a == b) = (!(a != b))) _ _)), (by first | rfl | (simp; done) | (simp [*]; done) | (simp; exact (by intro a b; cases a <;> cases b <;> rfl : ∀ a b : Bool, (a == b) = (!(a != b))) _ _)), H', ⟨by have := HK1.out; omega⟩, ⟨by repeat (first | (with_reducible first | exact HB.out | apply below_alloc | apply pw_below_drewN | apply below_drew1) | exact HB.out)⟩⟩
      · rw [if_neg c2] at H
        have c2b0 : decide (x4_1 < 256) = false := decide_eq_false c2
        clear c2
        obtain rfl := Option.some.inj H
        go_wp2
        go_ret
        exact ⟨by first | rfl | (simp [errW_none, errW_some] <;> rfl) | (simp [*, errW_none, errW_some] <;> rfl), by repeat (first | (with_reducible first | exact HB.out | apply below_alloc | apply pw_below_drewN | apply below_drew1) | exact HB.out)⟩

def fold_Set_List.f (a0_0 : Int) (a0_1 : Int) (a0_2 : Int) (a0_3 : Int) : Option (List Int) := some (listS ⟨a0_0, a0_1, a0_2, a0_3⟩)
theorem fold_Set_List.calls (a0_0 : Int) (a0_1 : Int) (a0_2 : Int) (a0_3 : Int) (r : List Int) (w : World) (h : fold_Set_List.f a0_0 a0_1 a0_2 a0_3 = some r) :
    Calls Try.prog 24 #[.agg #[.int .u64 a0_0, .int .u64 a0_1, .int .u64 a0_2, .int .u64 a0_3]] w fun e w' => ∃ v0_ : Value, e = .returned v0_ ∧ Kd.R (Kd.int .u8) 5 w' w.heap.size (fun _ => True) v0_ r ∧ Below w.heap.size w w' := by
  obtain rfl := Option.some.inj h
  exact list_calls ⟨a0_0, a0_1, a0_2, a0_3⟩ w

end Go.Proofs.Ytaegjpabkkoleaa.PFoldSets
