/- The document's example of the meter. -/
import Derived.Test.YtkmocajeknafbaaMetF
namespace Go.Proofs.Ytkmocajeknafbaa.Met
open Go Go.RowKit Go.Proofs Go.Proofs.YtkmocajeknafbaaW.PrintWords Go.Proofs.YtkmocajeknafbaaW.PrintMore Go.Proofs.Ytkmocajeknafbaa.Mp Go.Maps
set_option linter.unusedVariables false
set_option linter.unusedSimpArgs false
theorem Put.below {w w1 w2 : World} {M : Option Nat} {a b c d : Int} (h : Put w w1 M a b c d) (hb : Below w1.heap.size w1 w2) : Put w w2 M a b c d :=
  ⟨h.met.below hb, h.kept.below hb, fun B hB hBM => below_then (h.bel B hB hBM) (Nat.le_trans hB h.kept.1) hb⟩
theorem below_step {w w1 w2 : World} (h : Below w.heap.size w w1) (k : Below w1.heap.size w1 w2) : Below w.heap.size w w2 := below_then h h.size k
/-- a meter of one's own, behind a first world -/
theorem Put.step {w0 w w1 : World} {M : Option Nat} {a b c d : Int} (h0 : Below w0.heap.size w0 w) (h : Put w w1 M a b c d) (hM : ∀ k, M = some k → w0.heap.size ≤ k) : Below w0.heap.size w0 w1 := Below.trans h0 (h.bel _ h0.size hM)
theorem info5a : ∃ i, Try.prog.info? 5 = some i ∧ i.zero = some (.int .u8 0) ∧ i.size = 1 ∧ i.bytes = 1 := by
  have h : (Try.prog.info? 5).map (fun i => (i.zero, i.size, i.bytes)) = some (some (.int .u8 0), 1, 1) := by kernel_rfl
  obtain ⟨i, hi, he⟩ := Option.map_eq_some_iff.mp h
  simp only [Prod.mk.injEq] at he
  exact ⟨i, hi, he.1, he.2.1, he.2.2⟩
theorem made_u8 (n : Nat) : madeCells (Value.int .u8 0).cells n = u8s (List.replicate n 0) := by
  unfold madeCells u8s
  apply Array.ext
  · simp
  · intro i h1 h2
    simp [Value.cells, Nat.mod_one]
theorem make_u8 (W : World) (n : Nat) (hn : n ≤ 281474976710656) : (Instr.makeSlice 22 (.int .i64 (n : Int)) (.int .i64 (n : Int))).run Try.prog W = .ok (.slice (some ⟨W.heap.size, 0, none⟩) n n) (W.alloc (.cells (u8s (List.replicate n 0)) 5)) := by
  obtain ⟨i, hi, hz, hs, hb⟩ := info5a
  have h := run_make (P := Try.prog) W 22 5 i (.int .u8 0) Try.underlying22 hi hz .i64 .i64 (n : Int) (n : Int) (by omega) (by omega) (by rw [hb]; omega) (by omega)
  rw [h, Int.toNat_natCast, hs, Nat.mul_one, made_u8]
/-- rows that lie in a block of their own -/
theorem rows_blk (w : World) (g : Nat) (t : TypeId) (cs : Array Value) (L : List Row) (h : w.heap[g]? = some (.cells cs t (0, 0))) (hc : ∀ j, j < L.length → cs[j * 3]? = some (.int .i64 (rdR L j).1) ∧ cs[j * 3 + 1]? = some (.int .u8 (rdR L j).2.1) ∧ cs[j * 3 + 2]? = some (.int .i64 (rdR L j).2.2)) : RowsAt w (some ⟨g, 0, none⟩) L := by
  intro i h0 h1
  obtain ⟨n, rfl⟩ := Int.eq_ofNat_of_zero_le h0
  obtain ⟨c0, c1, c2⟩ := hc n (by omega)
  refine ⟨_, rfl, ?_, ?_, ?_⟩ <;> rw [Int.toNat_natCast, Addr.add_mid, Nat.zero_add]
  · exact (blk_cell h _).trans c0
  · exact (blk_cell h _).trans c1
  · exact (blk_cell h _).trans c2
set_option maxHeartbeats 16000000 in
set_option maxRecDepth 100000 in
theorem awake_calls (w : World) :
    Calls Try.prog 8 #[] w fun e w' => e = .returned (.bool true) ∧ Below w.heap.size w w' := by
  have hmk : ∀ W : World, (Instr.makeSlice 22 (.int .i64 3) (.int .i64 3)).run Try.prog W = .ok (.slice (some ⟨W.heap.size, 0, none⟩) 3 3) (W.alloc (.cells (u8s (List.replicate 3 0)) 5)) := fun W => make_u8 W 3 (by decide)
  have heq := eqC 9998
  have huR := Try.underlying41
  have huC := Try.underlying31
  go_enter Try.func8, Try.ntmps8
  go_wp2_with fail
  refine (meter_new _).mono ?_
  rintro e w1 ⟨rfl, rfl⟩
  have HM := Aside0.mk (show MAt (w.alloc (.cells #[.int .i64 0, .int .i64 0, .int .i64 0, .int .i64 0] 58)) (some w.heap.size) 0 0 0 0 from fun g hg => by cases hg; exact blk_new w _)
  have HB1 := Aside0.mk (below_alloc (Below.refl w.heap.size w) (.cells #[.int .i64 0, .int .i64 0, .int .i64 0, .int .i64 0] 58))
  have HGM : Aside0 (∀ k, (some w.heap.size) = some k → w.heap.size ≤ k) := ⟨fun k hk => by cases hk; exact Nat.le_refl _⟩
  have HGL := Aside0.mk (show w.heap.size < (w.alloc (.cells #[.int .i64 0, .int .i64 0, .int .i64 0, .int .i64 0] 58)).heap.size by rw [World.size_alloc]; omega)
  generalize hw1 : w.alloc (.cells #[.int .i64 0, .int .i64 0, .int .i64 0, .int .i64 0] 58) = w1 at HM HB1 HGL ⊢
  clear hw1
  go_wp2_with fail
  have HB2 := Aside0.mk (below_step HB1.out (below_alloc (Below.refl w1.heap.size w1) (.cells (u8s [7, 8]) 5)))
  have HM2 := Aside0.mk (HM.out.below (below_alloc (Below.refl w1.heap.size w1) (.cells (u8s [7, 8]) 5)))
  have HC2 := Aside0.mk (u8s_C _ _ _ (blk_new w1 (.cells (u8s [7, 8]) 5)) (by decide))
  refine (text_calls (some w.heap.size) (some ⟨w1.heap.size, 0, none⟩) 2 [7, 8] (w1.alloc (.cells (u8s [7, 8]) 5)) HC2.out (by decide) (by decide) (fun k hk => by cases hk; have := HGL.out; rw [World.size_alloc]; omega)).mono ?_
  rintro e w3 ⟨gt, A, cp, rfl, ht, hb⟩
  have HB3 := Aside0.mk (below_step HB2.out hb)
  have HM3 := Aside0.mk (HM2.out.below hb)
  have HT3 := Aside0.mk ht
  rw [World.size_alloc] at HT3
  clear ht hb HB2 HM2 HC2 HM HB1
  go_wp2_with fail
  refine (at_in 0 0 0 0 1 HT3.out HM3.out (by decide) (by decide) (by decide) (by decide)).mono ?_
  rintro e w4 ⟨rfl, ht, hp⟩
  rw [show wrap64 (rd [7, 8] 1) = 8 by rw [show rd [7, 8] 1 = 8 by decide]; unfold wrap64; omega]
  have HT4 := Aside0.mk ht
  have HM4 := Aside0.mk hp.met
  have HB4 := Aside0.mk (hp.step HB3.out HGM.out)
  clear ht hp HT3 HM3 HB3
  go_wp2_with fail
  refine (at_out 5 HT4.out (by decide)).mono ?_
  rintro e w5 ⟨rfl, hb⟩
  have HT5 := Aside0.mk (HT4.out.below hb)
  have HM5 := Aside0.mk (HM4.out.below hb)
  have HB5 := Aside0.mk (below_step HB4.out hb)
  clear hb HT4 HM4 HB4
  go_wp2_with fail
  have HBR := Aside0.mk (below_alloc (Below.refl w5.heap.size w5) (.cells #[.int .i64 0, .int .u8 97, .int .i64 1, .int .i64 0, .int .u8 97, .int .i64 2] 41))
  have HRW := Aside0.mk (rows_blk _ _ _ _ [(0, 97, 1), (0, 97, 2)] (blk_new w5 (.cells #[.int .i64 0, .int .u8 97, .int .i64 1, .int .i64 0, .int .u8 97, .int .i64 2] 41)) (fun j hj => by match j, hj with | 0, _ => exact ⟨rfl, rfl, rfl⟩ | 1, _ => exact ⟨rfl, rfl, rfl⟩))
  have HRO := Aside0.mk (show RowsOk [(0, 97, 1), (0, 97, 2)] by unfold RowsOk; decide)
  have HLT5 := Aside0.mk (show w.heap.size < w5.heap.size from HM5.out.lt _ rfl)
  refine (sparse_calls (some w.heap.size) (some ⟨w5.heap.size, 0, none⟩) 2 [(0, 97, 1), (0, 97, 2)] (w5.alloc (.cells #[.int .i64 0, .int .u8 97, .int .i64 1, .int .i64 0, .int .u8 97, .int .i64 2] 41)) HRW.out HRO.out (by decide) (fun k hk => by cases hk; have := HLT5.out; rw [World.size_alloc]; omega)).mono ?_
  rintro e w7 ⟨gs, gp, gq, nq, rfl, ht, hb⟩
  have HS7 := Aside0.mk ht
  have HB7 := Aside0.mk (below_step (below_step HB5.out HBR.out) hb)
  have HM7 := Aside0.mk ((HM5.out.below HBR.out).below hb)
  have HT7 := Aside0.mk ((HT5.out.below HBR.out).below hb)
  clear ht hb HB5 HM5 HT5 HBR HRW
  go_wp2_with fail
  refine (look_calls 1 0 0 0 HS7.out HM7.out HRO.out 0 97 (by decide) (by decide) (by decide) (by decide)).mono ?_
  rintro e w8 ⟨rfl, ht, hp⟩
  rw [show (sp [(0, 97, 1), (0, 97, 2)] 0 97).getD (-1) = 2 by decide]
  have HS8 := Aside0.mk ht
  have HM8 := Aside0.mk hp.met
  have HT8 := Aside0.mk (HT7.out.put hp)
  have HB8 := Aside0.mk (hp.step HB7.out HGM.out)
  clear ht hp HS7 HM7 HT7 HB7
  go_wp2_with fail
  refine (look_calls 1 1 0 0 HS8.out HM8.out HRO.out 0 98 (by decide) (by decide) (by decide) (by decide)).mono ?_
  rintro e w9 ⟨rfl, ht, hp⟩
  rw [show (sp [(0, 97, 1), (0, 97, 2)] 0 98).getD (-1) = -1 by decide]
  have HM9 := Aside0.mk hp.met
  have HT9 := Aside0.mk (HT8.out.put hp)
  have HB9 := Aside0.mk (hp.step HB8.out HGM.out)
  clear ht hp HS8 HM8 HT8 HB8
  go_wp2_with fail
  have HBx := Aside0.mk (below_alloc (Below.refl w9.heap.size w9) (.cells (u8s [9]) 5))
  have HCx := Aside0.mk (u8s_C _ _ _ (blk_new w9 (.cells (u8s [9]) 5)) (by decide))
  refine (read_in (some w.heap.size) 1 2 0 0 (some ⟨w9.heap.size, 0, none⟩) 1 1 [9] 0 (w9.alloc (.cells (u8s [9]) 5)) (HM9.out.below HBx.out) HCx.out rfl (by decide) (by decide) (by decide) (by decide)).mono ?_
  rintro e w10 ⟨rfl, hp⟩
  rw [show rd [9] 0 = 9 by decide]
  have HM10 := Aside0.mk hp.met
  have HT10 := Aside0.mk ((HT9.out.below HBx.out).put hp)
  have HB10 := Aside0.mk (hp.step (below_step HB9.out HBx.out) HGM.out)
  clear hp HM9 HT9 HB9 HBx HCx
  go_wp2_with fail
  have HBa := Aside0.mk (below_alloc (Below.refl w10.heap.size w10) (.cells (u8s (List.replicate 3 0)) 5))
  have HBb := Aside0.mk (below_alloc HBa.out (.cells (u8s [1, 2]) 5))
  have HDa := Aside0.mk (blk_alloc (blk_new w10 (.cells (u8s (List.replicate 3 0)) 5)) (.cells (u8s [1, 2]) 5))
  have HCb := Aside0.mk (src_of (u8s_C _ _ _ (blk_new (w10.alloc (.cells (u8s (List.replicate 3 0)) 5)) (.cells (u8s [1, 2]) 5)) (by decide)) (by decide))
  have HLT := Aside0.mk (show w.heap.size < w10.heap.size from HM10.out.lt _ rfl)
  rw [World.size_alloc] at HCb
  refine (copy_any (some w.heap.size) 1 2 1 0 w10.heap.size 0 (List.replicate 3 0) [1, 2] (some ⟨w10.heap.size, 0, none⟩) (some ⟨w10.heap.size + 1, 0, none⟩) 3 3 2 2 w.heap.size ((w10.alloc (.cells (u8s (List.replicate 3 0)) 5)).alloc (.cells (u8s [1, 2]) 5)) (HM10.out.below HBb.out) HDa.out rfl (fun _ => rfl) (fun _ => HCb.out) (by decide) (fun e => by have := HLT.out; injection e with e; omega) (Nat.le_of_lt HLT.out) HGM.out (by decide) (by decide)).mono ?_
  rintro e w11 ⟨rfl, hg, hm, hk, hb⟩
  have HM11 := Aside0.mk hm
  have HB11 := Aside0.mk (Below.trans (below_step HB10.out HBb.out) hb)
  have HT11 := Aside0.mk (HT10.out.kept ((Kept.of_below HBb.out _).then_ hk (fun k h => Or.inl h)) (fun k h1 h3 h2 => by have := HGL.out; rcases h2 with h2 | h2; omega; injection h2 with h2; omega))
  clear hg hm hk hb HM10 HT10 HB10 HBa HBb HDa HCb
  go_wp2_with fail
  refine (len_calls HT11.out).mono ?_
  rintro e w12 ⟨rfl, hb⟩
  have HB12 := Aside0.mk (below_step HB11.out hb)
  have HM12 := Aside0.mk (show MAt w12 (some w.heap.size) 1 2 1 2 from HM11.out.below hb)
  clear hb HT11 HM11 HB11
  go_wp2_with fail
  refine (counts_any _ _ _ _ _ _ HM12.out).mono ?_
  rintro e w13 ⟨rfl, hb⟩
  have HB13 := Aside0.mk (below_step HB12.out hb)
  clear hb HM12 HB12
  go_wp2
  go_ret
  exact ⟨rfl, HB13.out⟩
end Go.Proofs.Ytkmocajeknafbaa.Met
