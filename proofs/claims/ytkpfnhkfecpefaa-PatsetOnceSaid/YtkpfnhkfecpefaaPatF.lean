/- Load, of any file; the document's examples. -/
import Derived.Test.YtkpfnhkfecpefaaPatE
import Derived.Lib.SlBytesConst
import Derived.Lib.SmallJoins
namespace Go.Proofs.Ytkpfnhkfecpefaa.Pat
open Go Go.RowKit Go.Proofs Go.Proofs.YtkpfnhkfecpefaaW.PrintWords Go.Proofs.YtkpfnhkfecpefaaW.PrintMore Go.Proofs.YtkpfnhkfecpefaaW.PrintLast Go.Proofs.Ytkpfnhkfecpefaa.Mp Go.Maps Go.Proofs.Ytkpfnhkfecpefaa.Win Go.Proofs.Ytkpfnhkfecpefaa.Lin
set_option linter.unusedVariables false
set_option linter.unusedSimpArgs false
attribute [local go_sem] max2_int min2_int max_two min_two max_three min_three
theorem load_calls (w : World) (A : Option Addr) (c n : Nat) (l : List Int) (fd : Bool) (hn : n = l.length) (hr : Kd.C (Kd.int .u8) w A l.length l) (hc : l.length ≤ c) :
    Calls Try.prog 10 #[.slice A n c, .bool fd] w fun e w' => ∃ v, e = .returned (.tuple #[v, .int .i64 (loadE l)]) ∧ SetC w' v (loadP l fd) ∧ Below w.heap.size w w' := by
  subst hn
  unfold loadE loadP
  by_cases h : 1024 < l.length
  · rw [if_pos h, if_pos h]
    exact (load_big w A c l fd h).mono (by rintro e w' ⟨rfl, hb⟩; exact ⟨_, rfl, setC_zero _, hb⟩)
  · rw [if_neg h, if_neg h]
    exact (load_small w A c l fd hr hc (by omega)).mono (by rintro e w' ⟨v, rfl, hs, hb⟩; exact ⟨_, rfl, hs.toC, hb⟩)
theorem const_reads (w : World) (xs : List Int) (e : TypeId) (fr : Nat × Nat) (hm : xs.length ≤ 9223372036854775807) :
    Kd.C (Kd.int .u8) (w.alloc (.cells (xs.map (Value.int .u8)).toArray e fr)) (some ⟨w.heap.size, 0, none⟩) xs.length xs := by
  refine Kd.C_of_reads (d := (0 : Int)) (h1 := fun _ => rfl) ⟨rfl, hm, fun _ => ⟨_, rfl, fun j hj => ?_⟩⟩
  rw [add_plain, World.cell?_alloc_mark]
  simp [List.getD_eq_getElem?_getD, List.getElem?_eq_getElem hj]
theorem aw1 : loadP [97, 98, 10, 97, 10, 97, 98] false = ⟨[[97, 98], [97]], false⟩ := by kernel_rfl
theorem aw2 : loadP [97, 10, 10] false = ⟨[[97]], true⟩ := by kernel_rfl
theorem aw3 : loadP [65, 98, 10, 97, 66] true = ⟨[[97, 98]], false⟩ := by kernel_rfl
set_option maxHeartbeats 16000000 in
set_option maxRecDepth 100000 in
theorem awake_calls (w : World) :
    Calls Try.prog 9 #[] w fun e w' => e = .returned (.bool true) ∧ Below w.heap.size w w' := by
  have hzs := zeroSet
  have hu := Try.underlying27
  have HI3 := Aside0.mk (show (Try.prog.info? 27).map (·.size) = some 3 by kernel_rfl)
  have kc1 := Joins.run_convert_bytes_const_at (P := Try.prog) (w) 22 5 #[.int .u8 97, .int .u8 98, .int .u8 10, .int .u8 97, .int .u8 10, .int .u8 97, .int .u8 98] 7 7 (w.heap.size) (by rfl) Try.underlying22 Try.underlying5
  have HA1 := Aside0.mk (below_alloc (Below.refl (w).heap.size (w)) (.cells (([97, 98, 10, 97, 10, 97, 98] : List Int).map (Value.int .u8)).toArray 5 (7, 8)))
  go_enter Try.func9, Try.ntmps9
  go_wp2_with fail
  refine (load_calls ((w).alloc (.cells (([97, 98, 10, 97, 10, 97, 98] : List Int).map (Value.int .u8)).toArray 5 (7, 8))) (some ⟨w.heap.size, 0, none⟩) 7 7 [97, 98, 10, 97, 10, 97, 98] false rfl (by have := const_reads (w) [97, 98, 10, 97, 10, 97, 98] 5 (7, 8) (by decide); exact this) (by decide)).mono ?_
  rintro e u1 ⟨v1, rfl, hs1, hb1⟩
  rw [aw1] at hs1
  obtain ⟨A1, c1, M1, rfl, _, _, _, _⟩ := hs1.lies
  have HC1 := Aside0.mk (below_alloc (Below.refl u1.heap.size u1) (.cells #[.slice A1 2 c1, .map M1, .bool false] 27))
  have HQ1 := Aside0.mk (Below.trans HA1.out ((Below.trans hb1 (HC1.out.mono hb1.size)).mono HA1.out.size))
  have HX1 := Aside0.mk (blk_new u1 (.cells #[.slice A1 2 c1, .map M1, .bool false] 27))
  have HS1 := Aside0.mk (show SetC (u1.alloc (.cells #[.slice A1 2 c1, .map M1, .bool false] 27)) (.agg #[.slice A1 2 c1, .map M1, .bool false]) ⟨[[97,98],[97]], false⟩ from hs1.below HC1.out)
  have HE1 := Aside0.mk (HQ1.out)
  clear hs1 hb1 HA1 HC1 kc1
  have kc2 := Joins.run_convert_bytes_const_at (P := Try.prog) (u1.alloc (.cells #[.slice A1 2 c1, .map M1, .bool false] 27)) 22 5 #[.int .u8 97, .int .u8 10, .int .u8 10] 3 3 (u1.heap.size + 1) (by exact (World.size_alloc _ _).symm) Try.underlying22 Try.underlying5
  have HA2 := Aside0.mk (below_alloc (Below.refl (u1.alloc (.cells #[.slice A1 2 c1, .map M1, .bool false] 27)).heap.size (u1.alloc (.cells #[.slice A1 2 c1, .map M1, .bool false] 27))) (.cells (([97, 10, 10] : List Int).map (Value.int .u8)).toArray 5 (3, 4)))
  go_wp2_with fail
  refine (load_calls ((u1.alloc (.cells #[.slice A1 2 c1, .map M1, .bool false] 27)).alloc (.cells (([97, 10, 10] : List Int).map (Value.int .u8)).toArray 5 (3, 4))) (some ⟨u1.heap.size + 1, 0, none⟩) 3 3 [97, 10, 10] false rfl (by have := const_reads (u1.alloc (.cells #[.slice A1 2 c1, .map M1, .bool false] 27)) [97, 10, 10] 5 (3, 4) (by decide); rw [World.size_alloc] at this; exact this) (by decide)).mono ?_
  rintro e u2 ⟨v2, rfl, hs2, hb2⟩
  rw [aw2] at hs2
  obtain ⟨A2, c2, M2, rfl, _, _, _, _⟩ := hs2.lies
  have HC2 := Aside0.mk (below_alloc (Below.refl u2.heap.size u2) (.cells #[.slice A2 1 c2, .map M2, .bool true] 27))
  have HQ2 := Aside0.mk (Below.trans HA2.out ((Below.trans hb2 (HC2.out.mono hb2.size)).mono HA2.out.size))
  have HX2 := Aside0.mk (blk_new u2 (.cells #[.slice A2 1 c2, .map M2, .bool true] 27))
  have HS2 := Aside0.mk (show SetC (u2.alloc (.cells #[.slice A2 1 c2, .map M2, .bool true] 27)) (.agg #[.slice A2 1 c2, .map M2, .bool true]) ⟨[[97]], true⟩ from hs2.below HC2.out)
  have HX1_2 := Aside0.mk (blk_below HX1.out HQ2.out)
  have HS1_2 := Aside0.mk (HS1.out.below HQ2.out)
  have HE2 := Aside0.mk (Below.trans HE1.out (HQ2.out.mono HE1.out.size))
  clear hs2 hb2 HA2 HC2 kc2
  have kc3 := Joins.run_convert_bytes_const_at (P := Try.prog) (u2.alloc (.cells #[.slice A2 1 c2, .map M2, .bool true] 27)) 22 5 #[.int .u8 65, .int .u8 98, .int .u8 10, .int .u8 97, .int .u8 66] 5 5 (u2.heap.size + 1) (by exact (World.size_alloc _ _).symm) Try.underlying22 Try.underlying5
  have HA3 := Aside0.mk (below_alloc (Below.refl (u2.alloc (.cells #[.slice A2 1 c2, .map M2, .bool true] 27)).heap.size (u2.alloc (.cells #[.slice A2 1 c2, .map M2, .bool true] 27))) (.cells (([65, 98, 10, 97, 66] : List Int).map (Value.int .u8)).toArray 5 (5, 6)))
  go_wp2_with fail
  refine (load_calls ((u2.alloc (.cells #[.slice A2 1 c2, .map M2, .bool true] 27)).alloc (.cells (([65, 98, 10, 97, 66] : List Int).map (Value.int .u8)).toArray 5 (5, 6))) (some ⟨u2.heap.size + 1, 0, none⟩) 5 5 [65, 98, 10, 97, 66] true rfl (by have := const_reads (u2.alloc (.cells #[.slice A2 1 c2, .map M2, .bool true] 27)) [65, 98, 10, 97, 66] 5 (5, 6) (by decide); rw [World.size_alloc] at this; exact this) (by decide)).mono ?_
  rintro e u3 ⟨v3, rfl, hs3, hb3⟩
  rw [aw3] at hs3
  obtain ⟨A3, c3, M3, rfl, _, _, _, _⟩ := hs3.lies
  have HC3 := Aside0.mk (below_alloc (Below.refl u3.heap.size u3) (.cells #[.slice A3 1 c3, .map M3, .bool false] 27))
  have HQ3 := Aside0.mk (Below.trans HA3.out ((Below.trans hb3 (HC3.out.mono hb3.size)).mono HA3.out.size))
  have HX3 := Aside0.mk (blk_new u3 (.cells #[.slice A3 1 c3, .map M3, .bool false] 27))
  have HS3 := Aside0.mk (show SetC (u3.alloc (.cells #[.slice A3 1 c3, .map M3, .bool false] 27)) (.agg #[.slice A3 1 c3, .map M3, .bool false]) ⟨[[97,98]], false⟩ from hs3.below HC3.out)
  have HX1_3 := Aside0.mk (blk_below HX1_2.out HQ3.out)
  have HS1_3 := Aside0.mk (HS1_2.out.below HQ3.out)
  have HX2_3 := Aside0.mk (blk_below HX2.out HQ3.out)
  have HS2_3 := Aside0.mk (HS2.out.below HQ3.out)
  have HE3 := Aside0.mk (Below.trans HE2.out (HQ3.out.mono HE2.out.size))
  clear hs3 hb3 HA3 HC3 kc3
  have HX3_3 := HX3
  have HS3_3 := HS3
  have le1 : loadE [97, 98, 10, 97, 10, 97, 98] = 0 := rfl
  have le2 : loadE [97, 10, 10] = 0 := rfl
  have le3 : loadE [65, 98, 10, 97, 66] = 0 := rfl
  have k10 := (blk_cell HX1_3.out 0).trans (show _ = some (Value.slice A1 2 c1) from rfl)
  have k11 := (blk_cell HX1_3.out 1).trans (show _ = some (Value.map M1) from rfl)
  have k12 := (blk_cell HX1_3.out 2).trans (show _ = some (Value.bool false) from rfl)
  go_wp2_with fail
  refine (patterns_calls HS1_3.out (by decide) (by decide)).mono ?_
  rintro e w4 ⟨v4, rfl, hr4, hb4⟩
  clear k10 k11 k12
  have HX1_4 := Aside0.mk (blk_below HX1_3.out hb4)
  have HS1_4 := Aside0.mk (HS1_3.out.below hb4)
  have HX2_4 := Aside0.mk (blk_below HX2_3.out hb4)
  have HS2_4 := Aside0.mk (HS2_3.out.below hb4)
  have HX3_4 := Aside0.mk (blk_below HX3_3.out hb4)
  have HS3_4 := Aside0.mk (HS3_3.out.below hb4)
  have HE4 := Aside0.mk (Below.trans HE3.out (hb4.mono HE3.out.size))
  obtain ⟨g, cap, hv, _⟩ := Kd.R_form hr4 (by decide)
  obtain ⟨Av, cv, hv2, hcv, hC⟩ := Kd.R_reads hr4
  rw [hv] at hv2
  cases hv2
  subst hv
  obtain ⟨ad, Ab, cb, had, hcell, hcb, hb⟩ := row_at (L := [[97, 98], [97]]) hC 0 (by decide)
  cases had
  have s0 := Kd.C_string (P := Try.prog) (A := Ab) (c := cb) Try.underlying22 Try.underlying5 Try.underlying9 hb
  rw [show strOfNums ([[97, 98], [97]] : List (List Int))[0] = ⟨#[97, 98]⟩ by decide +kernel] at s0
  simp [Addr.add] at hcell s0
  clear hr4 hb4 hC hcv hcb hb
  have HEM := Aside0.mk (show Calls Try.prog 20 #[.agg #[.slice A1 2 c1, .map M1, .bool false]] w4 fun e w' => e = .returned (.bool false) ∧ Below w4.heap.size w4 w' from empty_calls HS1_4.out)
  have k10 := (blk_cell HX1_4.out 0).trans (show _ = some (Value.slice A1 2 c1) from rfl)
  have k11 := (blk_cell HX1_4.out 1).trans (show _ = some (Value.map M1) from rfl)
  have k12 := (blk_cell HX1_4.out 2).trans (show _ = some (Value.bool false) from rfl)
  go_wp2_with fail
  refine HEM.out.mono ?_
  rintro e w5 ⟨rfl, hb5⟩
  clear k10 k11 k12
  have HX1_5 := Aside0.mk (blk_below HX1_4.out hb5)
  have HS1_5 := Aside0.mk (HS1_4.out.below hb5)
  have HX2_5 := Aside0.mk (blk_below HX2_4.out hb5)
  have HS2_5 := Aside0.mk (HS2_4.out.below hb5)
  have HX3_5 := Aside0.mk (blk_below HX3_4.out hb5)
  have HS3_5 := Aside0.mk (HS3_4.out.below hb5)
  have HE5 := Aside0.mk (Below.trans HE4.out (hb5.mono HE4.out.size))
  clear hb5 hcell s0
  have HEX := Aside0.mk (show Calls Try.prog 20 #[.agg #[.slice A2 1 c2, .map M2, .bool true]] w5 fun e w' => e = .returned (.bool true) ∧ Below w5.heap.size w5 w' from empty_calls HS2_5.out)
  have k20 := (blk_cell HX2_5.out 0).trans (show _ = some (Value.slice A2 1 c2) from rfl)
  have k21 := (blk_cell HX2_5.out 1).trans (show _ = some (Value.map M2) from rfl)
  have k22 := (blk_cell HX2_5.out 2).trans (show _ = some (Value.bool true) from rfl)
  go_wp2_with fail
  refine HEX.out.mono ?_
  rintro e w6 ⟨rfl, hb6⟩
  clear k20 k21 k22
  have HX1_6 := Aside0.mk (blk_below HX1_5.out hb6)
  have HS1_6 := Aside0.mk (HS1_5.out.below hb6)
  have HX2_6 := Aside0.mk (blk_below HX2_5.out hb6)
  have HS2_6 := Aside0.mk (HS2_5.out.below hb6)
  have HX3_6 := Aside0.mk (blk_below HX3_5.out hb6)
  have HS3_6 := Aside0.mk (HS3_5.out.below hb6)
  have HE6 := Aside0.mk (Below.trans HE5.out (hb6.mono HE5.out.size))
  clear hb6
  have k20 := (blk_cell HX2_6.out 0).trans (show _ = some (Value.slice A2 1 c2) from rfl)
  have k21 := (blk_cell HX2_6.out 1).trans (show _ = some (Value.map M2) from rfl)
  have k22 := (blk_cell HX2_6.out 2).trans (show _ = some (Value.bool true) from rfl)
  go_wp2_with fail
  refine (patterns_calls HS2_6.out (by decide) (by decide)).mono ?_
  rintro e w7 ⟨v7, rfl, hr7, hb7⟩
  clear k20 k21 k22
  have HX1_7 := Aside0.mk (blk_below HX1_6.out hb7)
  have HS1_7 := Aside0.mk (HS1_6.out.below hb7)
  have HX3_7 := Aside0.mk (blk_below HX3_6.out hb7)
  have HS3_7 := Aside0.mk (HS3_6.out.below hb7)
  have HE7 := Aside0.mk (Below.trans HE6.out (hb7.mono HE6.out.size))
  obtain ⟨A7, c7, hv⟩ := Kd.R_slice hr7
  subst hv
  clear hr7 hb7
  have k30 := (blk_cell HX3_7.out 0).trans (show _ = some (Value.slice A3 1 c3) from rfl)
  have k31 := (blk_cell HX3_7.out 1).trans (show _ = some (Value.map M3) from rfl)
  have k32 := (blk_cell HX3_7.out 2).trans (show _ = some (Value.bool false) from rfl)
  go_wp2_with fail
  refine (patterns_calls HS3_7.out (by decide) (by decide)).mono ?_
  rintro e w8 ⟨v8, rfl, hr8, hb8⟩
  clear k30 k31 k32
  have HX1_8 := Aside0.mk (blk_below HX1_7.out hb8)
  have HS1_8 := Aside0.mk (HS1_7.out.below hb8)
  have HX3_8 := Aside0.mk (blk_below HX3_7.out hb8)
  have HS3_8 := Aside0.mk (HS3_7.out.below hb8)
  have HE8 := Aside0.mk (Below.trans HE7.out (hb8.mono HE7.out.size))
  obtain ⟨A8, c8, hv⟩ := Kd.R_slice hr8
  subst hv
  clear hr8 hb8
  have kc9 := Lib.run_convert_bytes_const (P := Try.prog) w8 22 5 #[.int .u8 97, .int .u8 98] 2 2 Try.underlying22 Try.underlying5
  have HA9 := Aside0.mk (below_alloc (Below.refl w8.heap.size w8) (.cells (([97, 98] : List Int).map (Value.int .u8)).toArray 5 (2, 3)))
  have HH9 := Aside0.mk (show Calls Try.prog 14 #[.agg #[.slice A3 1 c3, .map M3, .bool false], .slice (some ⟨w8.heap.size, 0, none⟩) 2 2] (w8.alloc (.cells (([97, 98] : List Int).map (Value.int .u8)).toArray 5 (2, 3))) fun e w' => e = .returned (.bool true) ∧ Below (w8.alloc (.cells (([97, 98] : List Int).map (Value.int .u8)).toArray 5 (2, 3))).heap.size (w8.alloc (.cells (([97, 98] : List Int).map (Value.int .u8)).toArray 5 (2, 3))) w' from has_calls (HS3_8.out.below HA9.out) [97, 98] (some ⟨w8.heap.size, 0, none⟩) 2 2 rfl (const_reads w8 [97, 98] 5 (2, 3) (by decide)) (by decide))
  have k30 := (blk_cell HX3_8.out 0).trans (show _ = some (Value.slice A3 1 c3) from rfl)
  have k31 := (blk_cell HX3_8.out 1).trans (show _ = some (Value.map M3) from rfl)
  have k32 := (blk_cell HX3_8.out 2).trans (show _ = some (Value.bool false) from rfl)
  go_wp2_with fail
  refine HH9.out.mono ?_
  rintro e w9 ⟨rfl, hb9⟩
  have HB9 := Aside0.mk (Below.trans HA9.out (hb9.mono HA9.out.size))
  clear k30 k31 k32
  have HX1_9 := Aside0.mk (blk_below HX1_8.out HB9.out)
  have HS1_9 := Aside0.mk (HS1_8.out.below HB9.out)
  have HE9 := Aside0.mk (Below.trans HE8.out (HB9.out.mono HE8.out.size))
  clear hb9 kc9
  have HLE := Aside0.mk (show Calls Try.prog 22 #[.agg #[.slice A1 2 c1, .map M1, .bool false]] w9 fun e w' => e = .returned (.int .i64 1) ∧ Below w9.heap.size w9 w' from least_calls HS1_9.out)
  have k10 := (blk_cell HX1_9.out 0).trans (show _ = some (Value.slice A1 2 c1) from rfl)
  have k11 := (blk_cell HX1_9.out 1).trans (show _ = some (Value.map M1) from rfl)
  have k12 := (blk_cell HX1_9.out 2).trans (show _ = some (Value.bool false) from rfl)
  go_wp2_with fail
  refine HLE.out.mono ?_
  rintro e w10 ⟨rfl, hb10⟩
  clear k10 k11 k12
  have HX1_10 := Aside0.mk (blk_below HX1_9.out hb10)
  have HS1_10 := Aside0.mk (HS1_9.out.below hb10)
  have HE10 := Aside0.mk (Below.trans HE9.out (hb10.mono HE9.out.size))
  clear hb10
  have HSI := Aside0.mk (show Calls Try.prog 21 #[.agg #[.slice A1 2 c1, .map M1, .bool false]] w10 fun e w' => e = .returned (.int .i64 3) ∧ Below w10.heap.size w10 w' from size_calls HS1_10.out (by decide))
  have k10 := (blk_cell HX1_10.out 0).trans (show _ = some (Value.slice A1 2 c1) from rfl)
  have k11 := (blk_cell HX1_10.out 1).trans (show _ = some (Value.map M1) from rfl)
  have k12 := (blk_cell HX1_10.out 2).trans (show _ = some (Value.bool false) from rfl)
  go_wp2_with fail
  refine HSI.out.mono ?_
  rintro e w11 ⟨rfl, hb11⟩
  have HE11 := Aside0.mk (Below.trans HE10.out (hb11.mono HE10.out.size))
  clear k10 k11 k12
  clear hb11
  go_wp2
  go_ret
  exact ⟨rfl, HE11.out⟩
end Go.Proofs.Ytkpfnhkfecpefaa.Pat
