/- Functions of the translation and what they come to: laid by a program of this session (xprint.py) beside contracts proved by hand. No condition. -/
import Derived.Test.YtaegjpabkkoleaaPFoldRawx0
import Derived.Test.YtaegjpabkkoleaaPFoldRawx2
namespace Go.Proofs.Ytaegjpabkkoleaa.PFoldRaw
open Go.RowKit Go.Proofs.YtaegjpabkkoleaaW.PrintWords Go.Proofs.YtaegjpabkkoleaaW.PrintLast Go.Proofs.YtaegjpabkkoleaaW.PrintMore
attribute [local go_sem] max2_int min2_int max_two min_two max_three min_three max_four min_four   -- for this text's walks alone
set_option linter.unusedVariables false
set_option linter.unusedSimpArgs false

/-- a row of bytes that a constant text was laid as -/
theorem const_reads (w : World) (xs : List Int) (e : TypeId) (fr : Nat × Nat) (hm : xs.length ≤ 9223372036854775807) :
    Kd.C (Kd.int .u8) (w.alloc (.cells (xs.map (Value.int .u8)).toArray e fr)) (some ⟨w.heap.size, 0, none⟩) xs.length xs := by
  refine Kd.C_of_reads (d := (0 : Int)) (h1 := fun _ => rfl) ⟨rfl, hm, fun _ => ⟨_, rfl, fun j hj => ?_⟩⟩
  rw [add_plain, World.cell?_alloc_mark]
  simp [List.getD_eq_getElem?_getD, List.getElem?_eq_getElem hj]
def ws0 : List Int := [0, 64, 65]
def ws1 : List Int := [65, 98, 95, 57]
def ws1' : List Int := [97, 98, 95, 57]
def ws2 : List Int := [97, 91]
def ws3 : List Int := [65]
section
attribute [local go_sem high] eq4
set_option maxHeartbeats 8000000 in
set_option maxRecDepth 100000 in
theorem awake_calls (w : World) :
    Calls Try.prog 9 #[] w fun e w' => e = .returned (.bool true) ∧ Below w.heap.size w w' := by
  have hu31 := Try.underlying31
  have kc := fun (w : World) (C : Array Value) (n c : Nat) => Lib.run_convert_bytes_const (P := Try.prog) w 22 5 C n c Try.underlying22 Try.underlying5
  have HOF := Aside0.mk (fun w => of_calls (some ⟨w.heap.size, 0, none⟩) 3 ws0 (w.alloc (.cells (ws0.map (Value.int .u8)).toArray 5 (0, 0))) (const_reads w ws0 5 (0, 0) (by decide)) (by decide) (by decide))
  have HS0 := Aside0.mk (show (ofS ws0).val = .agg #[.int .u64 1, .int .u64 3, .int .u64 0, .int .u64 0] by kernel_rfl)
  go_enter Try.func9, Try.ntmps9
  go_wp2_with fail
  refine (HOF.out w).mono ?_
  rintro e w1 ⟨rfl, hb⟩
  rw [HS0.out]
  have HB1 := Aside0.mk (below_step (below_alloc (Below.refl w.heap.size w) (.cells (ws0.map (Value.int .u8)).toArray 5 (0, 0))) hb)
  clear hb HOF HS0
  have kc1 := kc (w1.alloc (.cells #[.int .u64 1, .int .u64 3, .int .u64 0, .int .u64 0] 31)) #[.int .u8 65, .int .u8 98, .int .u8 95, .int .u8 57] 4 4
  rw [World.size_alloc] at kc1
  have hc1 := const_reads (w1.alloc (.cells #[.int .u64 1, .int .u64 3, .int .u64 0, .int .u64 0] 31)) ws1 5 (4, 5) (by decide)
  rw [World.size_alloc] at hc1
  have HBY := Aside0.mk (bytes_calls _ 4 ws1 _ hc1 (by decide) (by decide))
  have HBX := Aside0.mk (below_alloc (below_alloc HB1.out (.cells #[.int .u64 1, .int .u64 3, .int .u64 0, .int .u64 0] 31)) (.cells (ws1.map (Value.int .u8)).toArray 5 (4, 5)))
  have HBOX := Aside0.mk (blk_alloc (blk_new w1 (.cells #[.int .u64 1, .int .u64 3, .int .u64 0, .int .u64 0] 31)) (.cells (ws1.map (Value.int .u8)).toArray 5 (4, 5)))
  clear hc1
  go_wp2_with fail
  refine HBY.out.mono ?_
  rintro e w2 ⟨v2, rfl, hr2, hb2⟩
  rw [show ws1.map byteI = ws1' by decide] at hr2
  obtain ⟨A2, c2, rfl, hd2, hC2⟩ := Kd.R_reads hr2
  have hcv := Kd.C_string (P := Try.prog) (A := A2) (c := c2) Try.underlying22 Try.underlying5 Try.underlying9 hC2
  have hbox := blk_below HBOX.out hb2
  have k0 : w2.cell? ⟨w1.heap.size, 0, none⟩ = some (.int .u64 1) := (blk_cell hbox 0).trans rfl
  have k1 : w2.cell? ⟨w1.heap.size, 1, none⟩ = some (.int .u64 3) := (blk_cell hbox 1).trans rfl
  have k2 : w2.cell? ⟨w1.heap.size, 2, none⟩ = some (.int .u64 0) := (blk_cell hbox 2).trans rfl
  have k3 : w2.cell? ⟨w1.heap.size, 3, none⟩ = some (.int .u64 0) := (blk_cell hbox 3).trans rfl
  have hss : strOfNums ws1' = ⟨#[97, 98, 95, 57]⟩ := by decide +kernel
  rw [hss] at hcv
  clear hss
  have HBOX2 := Aside0.mk hbox
  have HB2 := Aside0.mk (below_step HBX.out hb2)
  clear hr2 hb2 hC2 hd2 hbox kc1 HBOX HBX HBY
  have HH1 := Aside0.mk (fun w => (show hasS ⟨1, 3, 0, 0⟩ 65 = true by kernel_rfl) ▸ has_calls ⟨1, 3, 0, 0⟩ 65 w (by decide) (by decide))
  have HH2 := Aside0.mk (fun w => (show hasS ⟨1, 3, 0, 0⟩ 66 = false by kernel_rfl) ▸ has_calls ⟨1, 3, 0, 0⟩ 66 w (by decide) (by decide))
  have HLN := Aside0.mk (fun w => (show lenS ⟨1, 3, 0, 0⟩ = 3 by decide +kernel) ▸ len_calls ⟨1, 3, 0, 0⟩ w)
  have HW1 := Aside0.mk (fun w => fold_Word.calls 95 true w (by decide +kernel))
  have HW2 := Aside0.mk (fun w => fold_Word.calls 45 false w (by decide +kernel))
  have HBT := Aside0.mk (fun w => fold_Byte.calls 90 122 w (by decide +kernel))
  have HF1 := Aside0.mk (fun w => fold_Fixed.calls (some ⟨w.heap.size, 0, none⟩) 2 ws2 true (w.alloc (.cells (ws2.map (Value.int .u8)).toArray 5 (2, 3))) (const_reads w ws2 5 (2, 3) (by decide)) (by decide) (by decide +kernel))
  have HF2 := Aside0.mk (fun w => fold_Fixed.calls (some ⟨w.heap.size, 0, none⟩) 1 ws3 false (w.alloc (.cells (ws3.map (Value.int .u8)).toArray 5 (1, 2))) (const_reads w ws3 5 (1, 2) (by decide)) (by decide) (by decide +kernel))
  go_wp2_with fail
  refine (HH1.out _).mono ?_
  rintro e w3 ⟨rfl, hb⟩
  have HBOX3 := Aside0.mk (blk_below HBOX2.out hb)
  have HB3 := Aside0.mk (below_step HB2.out hb)
  clear hb k0 k1 k2 k3
  have k0 : w3.cell? ⟨w1.heap.size, 0, none⟩ = some (.int .u64 1) := (blk_cell HBOX3.out 0).trans rfl
  have k1 : w3.cell? ⟨w1.heap.size, 1, none⟩ = some (.int .u64 3) := (blk_cell HBOX3.out 1).trans rfl
  have k2 : w3.cell? ⟨w1.heap.size, 2, none⟩ = some (.int .u64 0) := (blk_cell HBOX3.out 2).trans rfl
  have k3 : w3.cell? ⟨w1.heap.size, 3, none⟩ = some (.int .u64 0) := (blk_cell HBOX3.out 3).trans rfl
  go_wp2_with fail
  refine (HH2.out _).mono ?_
  rintro e w4 ⟨rfl, hb⟩
  have HBOX4 := Aside0.mk (blk_below HBOX3.out hb)
  have HB4 := Aside0.mk (below_step HB3.out hb)
  clear hb k0 k1 k2 k3
  have k0 : w4.cell? ⟨w1.heap.size, 0, none⟩ = some (.int .u64 1) := (blk_cell HBOX4.out 0).trans rfl
  have k1 : w4.cell? ⟨w1.heap.size, 1, none⟩ = some (.int .u64 3) := (blk_cell HBOX4.out 1).trans rfl
  have k2 : w4.cell? ⟨w1.heap.size, 2, none⟩ = some (.int .u64 0) := (blk_cell HBOX4.out 2).trans rfl
  have k3 : w4.cell? ⟨w1.heap.size, 3, none⟩ = some (.int .u64 0) := (blk_cell HBOX4.out 3).trans rfl
  go_wp2_with fail
  refine (HLN.out _).mono ?_
  rintro e w5 ⟨rfl, hb⟩
  have HB5 := Aside0.mk (below_step HB4.out hb)
  clear hb k0 k1 k2 k3
  go_wp2_with fail
  refine (HW1.out _).mono ?_
  rintro e w6 ⟨rfl, hd⟩
  have HB6 := Aside0.mk (below_step HB5.out hd.below)
  clear hd
  go_wp2_with fail
  refine (HW2.out _).mono ?_
  rintro e w7 ⟨rfl, hd⟩
  have HB7 := Aside0.mk (below_step HB6.out hd.below)
  clear hd
  go_wp2_with fail
  refine (HBT.out _).mono ?_
  rintro e w8 ⟨rfl, hd⟩
  have HB8 := Aside0.mk (below_step HB7.out hd.below)
  clear hd
  go_wp2_with fail
  refine (HF1.out _).mono ?_
  rintro e w9 ⟨rfl, hd⟩
  have HB9 := Aside0.mk (below_step (below_alloc HB8.out _) hd.below)
  clear hd
  go_wp2_with fail
  refine (HF2.out _).mono ?_
  rintro e w10 ⟨rfl, hd⟩
  have HB10 := Aside0.mk (below_step (below_alloc HB9.out _) hd.below)
  clear hd
  go_wp2
  go_ret
  exact ⟨rfl, HB10.out⟩
end
def seinelaw01_awake.f : Option Bool := some true
theorem seinelaw01_awake.calls (r : Bool) (w : World) (h : seinelaw01_awake.f = some r) :
    Calls Try.prog 9 #[] w fun e w' => e = .returned (.bool r) ∧ Below w.heap.size w w' := by
  obtain rfl := Option.some.inj h
  exact awake_calls w

def fold_Set_Union.f (a0_0 : Int) (a0_1 : Int) (a0_2 : Int) (a0_3 : Int) (a1_0 : Int) (a1_1 : Int) (a1_2 : Int) (a1_3 : Int) : Option (Int × Int × Int × Int) := some (unionS ⟨a0_0, a0_1, a0_2, a0_3⟩ ⟨a1_0, a1_1, a1_2, a1_3⟩).tup
theorem fold_Set_Union.calls (a0_0 : Int) (a0_1 : Int) (a0_2 : Int) (a0_3 : Int) (a1_0 : Int) (a1_1 : Int) (a1_2 : Int) (a1_3 : Int) (r1 : Int) (r2 : Int) (r3 : Int) (r4 : Int) (w : World) (h : fold_Set_Union.f a0_0 a0_1 a0_2 a0_3 a1_0 a1_1 a1_2 a1_3 = some (r1, r2, r3, r4)) :
    Calls Try.prog 18 #[.agg #[.int .u64 a0_0, .int .u64 a0_1, .int .u64 a0_2, .int .u64 a0_3], .agg #[.int .u64 a1_0, .int .u64 a1_1, .int .u64 a1_2, .int .u64 a1_3]] w fun e w' => e = .returned (.agg #[.int .u64 r1, .int .u64 r2, .int .u64 r3, .int .u64 r4]) ∧ Below w.heap.size w w' := by
  unfold fold_Set_Union.f at h
  rw [← SS.val_of (Option.some.inj h)]
  exact union_calls ⟨a0_0, a0_1, a0_2, a0_3⟩ ⟨a1_0, a1_1, a1_2, a1_3⟩ w

def fold_Set_List.f (a0_0 : Int) (a0_1 : Int) (a0_2 : Int) (a0_3 : Int) : Option (List Int) := some (listS ⟨a0_0, a0_1, a0_2, a0_3⟩)
theorem fold_Set_List.calls (a0_0 : Int) (a0_1 : Int) (a0_2 : Int) (a0_3 : Int) (r : List Int) (w : World) (h : fold_Set_List.f a0_0 a0_1 a0_2 a0_3 = some r) :
    Calls Try.prog 24 #[.agg #[.int .u64 a0_0, .int .u64 a0_1, .int .u64 a0_2, .int .u64 a0_3]] w fun e w' => ∃ v0_ : Value, e = .returned v0_ ∧ Kd.R (Kd.int .u8) 5 w' w.heap.size (fun _ => True) v0_ r ∧ Below w.heap.size w w' := by
  obtain rfl := Option.some.inj h
  exact list_calls ⟨a0_0, a0_1, a0_2, a0_3⟩ w

end Go.Proofs.Ytaegjpabkkoleaa.PFoldRaw
