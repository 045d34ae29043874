/- Sparse makes a table of rows; Look asks it, counted, of any meter or none. -/
import Derived.Test.YtkmocajeknafbaaMetD
namespace Go.Proofs.Ytkmocajeknafbaa.Met
open Go Go.RowKit Go.Proofs Go.Proofs.YtkmocajeknafbaaW.PrintWords Go.Proofs.YtkmocajeknafbaaW.PrintMore Go.Proofs.Ytkmocajeknafbaa.Mp Go.Maps
set_option linter.unusedVariables false
set_option linter.unusedSimpArgs false
theorem ms_step {n len : Nat} {x : Int} (h : n < len) (hx : x = ((n + 1 : Nat) : Int)) : len - (intOf (.int .i64 x)).toNat < len - (intOf (.int .i64 (n : Int))).toNat := by
  subst hx
  simp [intOf]
  omega
set_option maxHeartbeats 8000000 in
set_option maxRecDepth 100000 in
theorem sparse_calls (M : Option Nat) (A : Option Addr) (cp : Nat) (L : List Row) (w : World) (hr : RowsAt w A L) (hL : RowsOk L) (hl : L.length ≤ 1000000) (hM : ∀ k, M = some k → k < w.heap.size) :
    Calls Try.prog 14 #[.pointer (mp M), .slice A L.length cp] w fun e w' => ∃ gt gp gm n, e = .returned (.pointer (some ⟨gt, 0, none⟩)) ∧ TabAt w' gt M w.heap.size gp gm n L ∧ Below w.heap.size w w' := by
  have HR := Aside0.mk hr
  have HL := Aside0.mk hL
  have HLL := Aside0.mk hl
  have HM := Aside0.mk hM
  have hmm := @run_makeMap Try.prog
  have hmf : ∀ (fn : Fn) (first cap : Array Value) (w : World), (Instr.makeFunc fn first cap).run Try.prog w = .ok (.func fn first cap) w := fun _ _ _ _ => rfl
  have hzm := zeroMap
  have hzr := zeroRow
  have hu := Try.underlying41
  have hut := Try.underlying70
  have hue := Try.underlying66
  clear hr hL hl hM
  go_enter Try.func14, Try.ntmps14
  go_wp2
  have HB0 := Aside0.mk (below_alloc (below_alloc (Below.refl w.heap.size w) (.map #[] 0)) (.cells #[.map (some w.heap.size)] 64))
  have HV0 := Aside0.mk (show ((w.alloc (.map #[] 0)).alloc (.cells #[.map (some w.heap.size)] 64)).heap[w.heap.size + 1]? = some (.cells #[.map (some w.heap.size)] 64 (0, 0)) from by
    have := blk_new (w.alloc (.map #[] 0)) (.cells #[.map (some w.heap.size)] 64)
    rwa [World.size_alloc] at this)
  have HM0 := Aside0.mk ((MapI.made Try.prog 66 3 w).below (below_alloc (Below.refl _ _) (.cells #[.map (some w.heap.size)] 64)))
  go_loopw [11] (fun v11 wr => ∃ n : Nat, v11 = .int .i64 (n : Int) ∧ Aside0 (n ≤ L.length) ∧ Aside0 (MapI Try.prog 66 3 wr w.heap.size n (fm (L.take n))) ∧ Aside0 (wr.heap[w.heap.size + 1]? = some (.cells #[.map (some w.heap.size)] 64 (0, 0))) ∧ Aside0 (Below w.heap.size w wr)) (fun v _ => L.length - (intOf v).toNat)
  case atStart => exact ⟨0, rfl, ⟨Nat.zero_le _⟩, HM0, HV0, HB0⟩
  case round =>
    clear HM0 HV0 HB0
    obtain ⟨n, rfl, HN, HMP, HV, HB⟩ := hrel
    by_cases hlt : n < L.length
    · have d1 : decide ((n : Int) < (L.length : Int)) = true := decide_eq_true (by omega)
      have d2 : decide (n < L.length) = true := decide_eq_true hlt
      have p1 : 0 ≤ (n : Int) := by omega
      have q1 : (n : Int) < (L.length : Int) := by omega
      obtain ⟨ad, e, hx0, hx1, hx2⟩ := (HR.out.below HB.out) (n : Int) p1 q1
      cases e
      have hrd : rdR L (n : Int) = L[n] := by unfold rdR; rw [Int.toNat_natCast, List.getD_eq_getElem?_getD, List.getElem?_eq_getElem hlt]; rfl
      rw [hrd, Int.toNat_natCast] at hx0
      rw [hrd, Int.toNat_natCast] at hx1 hx2
      have HOK := Aside0.mk (HL.out _ (List.getElem_mem hlt))
      have HTK := Aside0.mk (List.take_succ_eq_append_getElem hlt)
      generalize L[n] = r at hx0 hx1 hx2 HOK HTK
      obtain ⟨r0, r1, r2⟩ := r
      have HW := Aside0.mk (show wrap64 ((n : Int) + 1) = ((n + 1 : Nat) : Int) by have := HLL.out; unfold wrap64; omega)
      have HNL := Aside0.mk hlt
      have hb1 := below_alloc (Below.refl wr.heap.size wr) (.cells #[.int .i64 r0, .int .u8 r1, .int .i64 r2] 41)
      have hsz : w.heap.size + 1 < wr.heap.size := blk_lt HV.out
      have k5 : wr.cell? ⟨w.heap.size + 1, 0, none⟩ = some (.map (some w.heap.size)) := (blk_cell HV.out 0).trans rfl
      have HB1 := Aside0.mk (below_then HB.out HB.out.size hb1)
      have HMP1 := Aside0.mk (HMP.out.below hb1)
      have HV1 := Aside0.mk (blk_below HV.out hb1)
      clear hrd hlt hb1
      go_wp2_with (at_mapUpdate; refine wpList_mapI rfl _ _ _ 64 rfl edgeK Try.underlying64 Try.underlying3 rfl HMP1.out (by have := HLL.out; have := HNL.out; unfold maxLen; omega) _ (kl r0 r1) r2 rfl rfl (key_edge r0 r1 HOK.out.1 HOK.out.2.1) HOK.out.2.2 ?_; intro w2 hmp2 hg2)
      have HMP2 := Aside0.mk (show MapI Try.prog 66 3 w2 w.heap.size (n + 1) (fm (L.take (n + 1))) by rw [HTK.out, fm_snoc]; exact hmp2)
      have HV2 := Aside0.mk (blk_kept HV1.out (kept_grown hg2) (by omega))
      have HB2 := Aside0.mk (pw_below_grown HB1.out (some w.heap.size) (Nat.le_trans HB.out.size (by simp)) hg2 (fun k hk => by cases hk; exact Nat.le_refl _))
      clear hmp2 hg2
      go_roundw
      case rel => exact ⟨n + 1, by first | exact congrArg (Value.int .i64) HW.out | rfl, ⟨HNL.out⟩, HMP2, HV2, HB2⟩
      case measure => exact ms_step HNL.out HW.out
    · have hn : n = L.length := by have := HN.out; omega
      subst hn
      have d1 : decide ((L.length : Int) < (L.length : Int)) = false := decide_eq_false (by omega)
      have d2 : decide (L.length < L.length) = false := decide_eq_false (by omega)
      clear hlt
      go_wp2
      go_ret
      have hb1 := below_alloc (Below.refl wr.heap.size wr) (.cells #[.pointer (mp M), .func (.func 23) #[] #[.pointer (some ⟨w.heap.size + 1, 0, none⟩)]] 70)
      refine ⟨wr.heap.size, w.heap.size + 1, w.heap.size, L.length, rfl, ⟨blk_new _ _, blk_below HV.out hb1, ?_, HM.out, HB.out.size, by omega, Nat.le_refl _⟩, below_then HB.out HB.out.size hb1⟩
      have := HMP.out.below hb1
      rwa [List.take_length] at this
end Go.Proofs.Ytkmocajeknafbaa.Met
