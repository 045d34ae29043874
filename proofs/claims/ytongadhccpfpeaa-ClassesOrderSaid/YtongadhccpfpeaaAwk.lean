/- The document's example for classes: the helper awake answers true, in every world. -/
import Derived.Test.YtongadhccpfpeaaTxt9
import Derived.Lib.SmallJoins
namespace Go.Proofs.Ytongadhccpfpeaa.Base9
open Go Go.RowKit Go.Proofs.YtongadhccpfpeaaW.PrintWords Go.Proofs.YtongadhccpfpeaaW.PrintLast Go.Proofs.YtongadhccpfpeaaW.PrintMore
set_option linter.unusedVariables false
set_option linter.unusedSimpArgs false
attribute [local go_sem ↓] ld29_eq
theorem const_reads (w : World) (xs : List Int) (e : TypeId) (fr : Nat × Nat) (hm : xs.length ≤ 9223372036854775807) :
    Kd.C (Kd.int .u8) (w.alloc (.cells (xs.map (Value.int .u8)).toArray e fr)) (some ⟨w.heap.size, 0, none⟩) xs.length xs := by
  refine Kd.C_of_reads (d := (0 : Int)) (h1 := fun _ => rfl) ⟨rfl, hm, fun _ => ⟨_, rfl, fun j hj => ?_⟩⟩
  rw [add_plain, World.cell?_alloc_mark]
  simp [List.getD_eq_getElem?_getD, List.getElem?_eq_getElem hj]
def wa0 : List Int := [97, 98]
def wa1 : List Int := [98]
def wls : List (List Int) := [wa0, wa1]
theorem wls_b : ∀ l ∈ wls, ∀ x ∈ l, 0 ≤ x ∧ x < 256 := by decide
theorem aw_cnt : cntp (mk wls) 256 = 2 := by decide +kernel
theorem aw_97 : clsK (mk wls) 97 = 1 := by decide +kernel
theorem aw_98 : clsK (mk wls) 98 = 2 := by decide +kernel
theorem aw_99 : clsK (mk wls) 99 = 0 := by decide +kernel
theorem aw_b2 : bytesK (mk wls) 2 = [98] := by decide +kernel
theorem aw_b0 : (bytesK (mk wls) 0).length = 254 := by decide +kernel
set_option maxHeartbeats 8000000 in
set_option maxRecDepth 100000 in
theorem awake_calls (w : World) :
    Calls Try.prog 7 #[] w fun e w' => e = .returned (.bool true) ∧ Below w.heap.size w w' := by
  have hu29 := Try.underlying29
  have hu27 := Try.underlying27
  have hz := zero29
  obtain ⟨cs, hcs⟩ : ∃ cs, cs = clsN (listS (allS wls)) (listS (allS wls)).length := ⟨_, rfl⟩
  have hT0 := tbl_all wls wls_b
  have HT := Aside0.mk (show Tbl (mk wls) cs by rw [hcs]; exact hT0)
  clear hT0
  have hHs := Aside0.mk (HT.out.size)
  have hcl : cs.toList.length = 257 := by simpa using HT.out.size
  have HON := Aside0.mk HT.out.one
  have HI1 := Aside0.mk (show (Try.prog.info? 29).map (·.size) = some cs.toList.length by rw [hcl]; exact info29)
  have h98 : ((cs.toList.take 256).toArray)[98]? = some (.int .i64 2) := by
    have h := HT.out.at_ 98 (by decide)
    rw [aw_98] at h
    have h : cs[98]? = some (.int .i64 2) := h
    rw [← h]
    simp [List.getElem?_take]
  -- the two texts
  have kc0 := const_reads w wa0 5 (2, 3) (by decide)
  have kc1 := const_reads (w.alloc (.cells (wa0.map (Value.int .u8)).toArray 5 (2, 3))) wa1 5 (1, 2) (by decide)
  rw [World.size_alloc] at kc1
  have hJ : Kd.C (Kd.slice 5 (Kd.int .u8)) (((w.alloc (.cells (wa0.map (Value.int .u8)).toArray 5 (2, 3))).alloc (.cells (wa1.map (Value.int .u8)).toArray 5 (1, 2))).alloc (.cells #[.slice (some ⟨w.heap.size, 0, none⟩) 2 2, .slice (some ⟨w.heap.size + 1, 0, none⟩) 1 1] 36)) (some ⟨w.heap.size + 1 + 1, 0, none⟩) 2 wls := by
    refine ⟨rfl, by decide, fun _ => ⟨_, rfl, fun j p hj => ?_⟩⟩
    have hb := blk_new ((w.alloc (.cells (wa0.map (Value.int .u8)).toArray 5 (2, 3))).alloc (.cells (wa1.map (Value.int .u8)).toArray 5 (1, 2))) (.cells #[.slice (some ⟨w.heap.size, 0, none⟩) 2 2, .slice (some ⟨w.heap.size + 1, 0, none⟩) 1 1] 36)
    rw [World.size_alloc, World.size_alloc] at hb
    have h0 := (blk_cell hb 0)
    have h1 := (blk_cell hb 1)
    match j, hj with
    | 0, hj =>
      cases hj
      exact ⟨[.slice (some ⟨w.heap.size, 0, none⟩) 2 2], rfl, ⟨_, _, rfl, by decide, Kd.C_alloc (Kd.C_alloc kc0 _) _⟩, fun i u hu => by
        match i, hu with
        | 0, hu => cases hu; exact h0⟩
    | 1, hj =>
      cases hj
      exact ⟨[.slice (some ⟨w.heap.size + 1, 0, none⟩) 1 1], rfl, ⟨_, _, rfl, by decide, Kd.C_alloc kc1 _⟩, fun i u hu => by
        match i, hu with
        | 0, hu => cases hu; exact h1⟩
  have HO := Aside0.mk (cof_calls (some ⟨w.heap.size + 1 + 1, 0, none⟩) 2 wls _ hJ (by decide) wls_b)
  rw [← hcs] at HO
  have HB0 := Aside0.mk (below_alloc (below_alloc (below_alloc (Below.refl w.heap.size w) (.cells (wa0.map (Value.int .u8)).toArray 5 (2, 3))) (.cells (wa1.map (Value.int .u8)).toArray 5 (1, 2))) (.cells #[.slice (some ⟨w.heap.size, 0, none⟩) 2 2, .slice (some ⟨w.heap.size + 1, 0, none⟩) 1 1] 36))
  clear hJ kc0 kc1 hcs hcl hHs
  have ka := Lib.run_convert_bytes_const (P := Try.prog) w 36 5 #[.int .u8 97, .int .u8 98] 2 2 Try.underlying36 Try.underlying5
  have kb := Joins.run_convert_bytes_const_at (P := Try.prog) (w.alloc (.cells #[.int .u8 97, .int .u8 98] 5 (2, 3))) 36 5 #[.int .u8 98] 1 1 (w.heap.size + 1) (by rw [World.size_alloc]) Try.underlying36 Try.underlying5
  go_enter Try.func7, Try.ntmps7
  go_wp2_with fail
  refine HO.out.mono ?_
  rintro e w1 ⟨rfl, hb1⟩
  have HB1 := Aside0.mk (below_step HB0.out hb1)
  have HI2 := Aside0.mk (show (Try.prog.info? 29).map (·.size) = some cs.size by rw [HT.out.size]; exact info29)
  have hs257 : cs.size = 257 := HT.out.size
  have hst := fun W => run_storeCells_new (P := Try.prog) W 29 zeroC cs HI2.out (by rw [HT.out.size]; simp [zeroC]) HON.out
  have HG := Aside0.mk (blk_new w1 (.cells cs 29))
  have HBB := Aside0.mk (below_alloc HB1.out (.cells cs 29))
  have HN2 := Aside0.mk aw_b2
  have HN0 := Aside0.mk aw_b0
  clear hb1 HB1 HB0 HO
  have hld := ld29_run w1.heap.size cs hs257
  have pR := range_of HG.out
  have hi98 : ∀ W : World, (Instr.index 27 (.agg (cs.toList.take 256).toArray) (.int .i64 98)).run Try.prog W = .ok (.int .i64 2) W := fun W => index27 W (cs.toList.take 256).toArray 98 (by decide) 2 h98
  clear hu29 h98
  go_wp2_with fail
  refine (lenT_calls HT.out _).mono ?_
  rintro e w2 ⟨rfl, hb⟩
  have HG := Aside0.mk (blk_below HG.out hb)
  clear pR
  have pR := range_of HG.out
  have HBB := Aside0.mk (below_step HBB.out hb)
  clear hb
  rw [aw_cnt]
  go_wp2_with fail
  refine (classT_calls HT.out 97 (by decide) (by decide) _).mono ?_
  rintro e w3 ⟨rfl, hb⟩
  have HG := Aside0.mk (blk_below HG.out hb)
  clear pR
  have pR := range_of HG.out
  have HBB := Aside0.mk (below_step HBB.out hb)
  clear hb
  rw [show (97 : Int).toNat = 97 from rfl, aw_97]
  go_wp2_with fail
  refine (classT_calls HT.out 98 (by decide) (by decide) _).mono ?_
  rintro e w4 ⟨rfl, hb⟩
  have HG := Aside0.mk (blk_below HG.out hb)
  clear pR
  have pR := range_of HG.out
  have HBB := Aside0.mk (below_step HBB.out hb)
  clear hb
  rw [show (98 : Int).toNat = 98 from rfl, aw_98]
  go_wp2_with fail
  refine (classT_calls HT.out 99 (by decide) (by decide) _).mono ?_
  rintro e w5 ⟨rfl, hb⟩
  have HG := Aside0.mk (blk_below HG.out hb)
  clear pR
  have pR := range_of HG.out
  have HBB := Aside0.mk (below_step HBB.out hb)
  clear hb
  rw [show (99 : Int).toNat = 99 from rfl, aw_99]
  go_wp2_with fail
  refine (bytes_calls HT.out 2 _).mono ?_
  rintro e w6 ⟨v, rfl, hr, hb⟩
  have HG := Aside0.mk (blk_below HG.out hb)
  clear pR
  have pR := range_of HG.out
  have HBB := Aside0.mk (below_step HBB.out hb)
  rw [HN2.out] at hr
  obtain ⟨A4, c4, hv, hd4, hC4⟩ := Kd.R_reads hr
  subst hv
  have hcv := Kd.C_string (P := Try.prog) (A := A4) (c := c4) Try.underlying36 Try.underlying5 Try.underlying9 hC4
  have hss : strOfNums [98] = ⟨#[98]⟩ := by decide +kernel
  rw [hss] at hcv
  have hcv' : (convert 36 9 (.slice A4 1 c4)).run Try.prog w6 = .ok (.string ⟨#[98]⟩) w6 := hcv
  clear hcv hss hr hb hC4 hd4
  go_wp2_with fail
  clear hcv'
  refine (bytes_calls HT.out 0 _).mono ?_
  rintro e w7 ⟨v, rfl, hr, hb⟩
  have HG := Aside0.mk (blk_below HG.out hb)
  clear pR
  have pR := range_of HG.out
  have HBB := Aside0.mk (below_step HBB.out hb)
  obtain ⟨A4, c4, hv⟩ := Kd.R_slice hr
  subst hv
  rw [HN0.out]
  clear hr hb
  go_wp2_with fail
  refine (tableT_calls HT.out _).mono ?_
  rintro e w8 ⟨rfl, hb⟩
  have HG := Aside0.mk (blk_below HG.out hb)
  clear pR
  have pR := range_of HG.out
  have HBB := Aside0.mk (below_step HBB.out hb)
  clear hb
  go_wp2
  go_ret
  exact ⟨rfl, HBB.out⟩
end Go.Proofs.Ytongadhccpfpeaa.Base9
