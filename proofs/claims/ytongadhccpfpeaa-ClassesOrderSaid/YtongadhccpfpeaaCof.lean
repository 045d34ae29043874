/- What classes.Of gives: the classes of some texts, as cells; for texts of bytes within memory. -/
import Derived.Test.YtongadhccpfpeaaBase9x1
import Derived.Deep.MidRow
import Derived.Deep.WholeRow
import Derived.Laws.CopyOwn
import Derived.Laws.Tables
namespace Go.Proofs.Ytongadhccpfpeaa.Base9
open Go.RowKit Go.Proofs.YtongadhccpfpeaaW.PrintWords Go.Proofs.YtongadhccpfpeaaW.PrintLast Go.Proofs.YtongadhccpfpeaaW.PrintMore
set_option linter.unusedVariables false
set_option linter.unusedSimpArgs false
/-- the set after some texts -/
def allS (ls : List (List Int)) : SS := ls.foldl (fun s l => unionS s (ofS l)) zeroS
theorem allS_succ (ls : List (List Int)) (n : Nat) (h : n < ls.length) : allS (ls.take (n + 1)) = unionS (allS (ls.take n)) (ofS ls[n]) := by
  rw [List.take_succ_eq_append_getElem h]; unfold allS; rw [List.foldl_append]; rfl
/-- the classes' cells: 256 of the table, one of the count -/
def zeroC : Array Value := Array.replicate 257 (.int .i64 0)
def stepC (cs : Array Value) (n : Nat) (b : Int) : Array Value := (cs.setIfInBounds 256 (.int .i64 ((n : Int) + 1))).setIfInBounds b.toNat (.int .i64 ((n : Int) + 1))
def clsN (L : List Int) : Nat → Array Value
  | 0 => zeroC
  | n + 1 => stepC (clsN L n) n (L.getD n 0)
theorem zero29 (W : World) : (zeroValue 29).run Try.prog W = .ok (.agg zeroC) W := by
  have h : (Try.prog.info? 29).map (·.zero) = some (some (.agg zeroC)) := by kernel_rfl
  obtain ⟨i, hi, he⟩ := Option.map_eq_some_iff.mp h
  simp [zeroValue, typeInfo, hi, he, Sem.run_bind]
theorem clsN_size (L : List Int) (n : Nat) : (clsN L n).size = 257 := by
  induction n with
  | zero => simp [clsN, zeroC]
  | succ n ih => simp [clsN, stepC, ih]
theorem clsN_one (L : List Int) (n : Nat) : (clsN L n).all (·.oneCell') = true := by
  rw [Array.all_eq_true_iff_forall_mem]
  induction n with
  | zero =>
    intro x hx
    simp only [clsN, zeroC, Array.mem_replicate] at hx
    rw [hx.2]; rfl
  | succ n ih =>
    intro x hx
    rcases Array.mem_or_eq_of_mem_setIfInBounds hx with hx | rfl
    · rcases Array.mem_or_eq_of_mem_setIfInBounds hx with hx | rfl
      · exact ih x hx
      · rfl
    · rfl
theorem clsN_cnt (L : List Int) (hb : ∀ x ∈ L, 0 ≤ x ∧ x < 256) (n : Nat) (hn : n ≤ L.length) : (clsN L n)[256]? = some (.int .i64 (n : Int)) := by
  induction n with
  | zero => simp [clsN, zeroC]
  | succ n ih =>
    have hx : 0 ≤ L.getD n 0 ∧ L.getD n 0 < 256 := by
      rw [List.getD_eq_getElem?_getD, List.getElem?_eq_getElem (by omega)]
      exact hb _ (List.getElem_mem (by omega))
    simp only [clsN, stepC]
    rw [Array.getElem?_setIfInBounds_ne (by omega), Array.getElem?_setIfInBounds_self_of_lt (by rw [clsN_size]; omega)]
    simp
theorem listS_b (s : SS) : ∀ x ∈ listS s, 0 ≤ x ∧ x < 256 := by
  intro x hx
  unfold listS at hx
  rw [List.mem_filter, List.mem_map] at hx
  obtain ⟨⟨n, hn, rfl⟩, _⟩ := hx
  rw [List.mem_range] at hn
  omega
theorem listS_len (s : SS) : (listS s).length ≤ 256 := upS_len s 256
theorem info29 : (Try.prog.info? 29).map (·.size) = some 257 := by kernel_rfl
theorem range_of {w : World} {g : Nat} {cs : Array Value} {t : TypeId} (h : w.heap[g]? = some (.cells cs t (0, 0))) : w.rangeAt g 0 cs.toList := fun j v hv => by
  rw [Nat.zero_add, blk_cell h j]
  simpa using hv
set_option maxHeartbeats 8000000 in
set_option maxRecDepth 100000 in
theorem cof_calls (A0 : Option Addr) (c0 : Nat) (l0 : List (List Int)) (w : World) (hr0 : Kd.C (Kd.slice 5 (Kd.int .u8)) w A0 l0.length l0) (hc0 : l0.length ≤ c0) (hb : ∀ l ∈ l0, ∀ x ∈ l, 0 ≤ x ∧ x < 256) :
    Calls Try.prog 9 #[.slice A0 l0.length c0] w fun e w' => e = .returned (.agg (clsN (listS (allS l0)) (listS (allS l0)).length)) ∧ Below w.heap.size w w' := by
  have HR0 := Aside0.mk hr0
  have HC0 := Aside0.mk hc0
  have HBY := Aside0.mk hb
  have HM := Aside0.mk (show l0.length ≤ 9223372036854775807 from hr0.2.1)
  have hu43 := Try.underlying43
  have hz := zero29
  obtain ⟨LF, hLF⟩ : ∃ x, x = listS (allS l0) := ⟨_, rfl⟩
  rw [← hLF]
  have HLF := Aside0.mk hLF
  clear hr0 hc0 hb hLF
  go_enter Try.func9, Try.ntmps9
  go_wp2
  go_loopw [11] (fun v11 wr => ∃ n : Nat, v11 = .int .i64 (n : Int) ∧ Aside0 (n ≤ l0.length) ∧ Aside0 (wr.heap[w.heap.size + 1]? = some (.cells (allS (l0.take n)).cs 43 (0, 0))) ∧ Aside0 (wr.heap[w.heap.size]? = some (.cells zeroC 29 (0, 0))) ∧ Aside0 (Below w.heap.size w wr)) (fun i _ => l0.length - (intOf i).toNat)
  case atStart => exact ⟨0, rfl, ⟨Nat.zero_le _⟩, ⟨heap2 w _ _⟩, ⟨blk_alloc (blk_new w _) _⟩, ⟨by repeat (first | exact Below.refl _ _ | apply below_alloc)⟩⟩
  case round =>
    obtain ⟨n, rfl, HL, HS, HO, HB⟩ := hrel
    by_cases hlt : n < l0.length
    · have c2b0 : decide ((n : Int) < (l0.length : Int)) = true := decide_eq_true (by omega)
      have p101 : 0 ≤ (n : Int) := by omega
      have q101 : (n : Int) < (l0.length : Int) := by omega
      have HRw := Aside0.mk (Kd.C_below HR0.out HB.out)
      obtain ⟨ad101, A1, c1, e101, hx101_0, hl101, hi101⟩ := at_L3 HRw.out (n : Int) p101 q101
      cases e101
      rw [Int.toNat_natCast] at hx101_0
      have HI := Aside0.mk hi101
      have HLI := Aside0.mk hl101
      clear hi101 hl101
      replace p101 := eq_true p101
      replace q101 := eq_true q101
      have hd := allS_succ l0 n hlt
      have hrd : rd_L3 l0 (n : Int) = l0[n] := by unfold rd_L3; rw [Int.toNat_natCast, List.getD_eq_getElem?_getD, List.getElem?_eq_getElem hlt]; rfl
      rw [← hrd] at hd
      have HBX := Aside0.mk (show ∀ x ∈ rd_L3 l0 (n : Int), 0 ≤ x ∧ x < 256 by rw [hrd]; exact HBY.out _ (List.getElem_mem hlt))
      have HW := Aside0.mk (show wrap64 ((n : Int) + 1) = ((n + 1 : Nat) : Int) by have := HM.out; unfold wrap64; omega)
      have HD := Aside0.mk hd
      have HL1 := Aside0.mk hlt
      have hc := Aside0.mk (fun w h => of_calls A1 c1 (rd_L3 l0 (n : Int)) w h HLI.out HBX.out)
      clear hd hlt hrd
      generalize rd_L3 l0 (n : Int) = lx at hc hx101_0 HD HI HLI HBX
      generalize hso : ofS lx = so at hc HD
      generalize allS (l0.take n) = s at HD HS
      have hcu := Aside0.mk (fun w => union_calls s so w)
      obtain ⟨s', hs'⟩ : ∃ s', s' = unionS s so := ⟨_, rfl⟩
      rw [← hs'] at hcu HD
      clear hs' hso
      obtain ⟨a, b, c, d⟩ := s
      obtain ⟨a', b', c', d'⟩ := s'
      obtain ⟨a'', b'', c'', d''⟩ := so
      unfold SS.val at hc hcu
      dsimp only at hc hcu
      have k0 : wr.cell? ⟨w.heap.size + 1, 0, none⟩ = some (.int .u64 a) := (blk_cell HS.out 0).trans rfl
      have k1 : wr.cell? ⟨w.heap.size + 1, 1, none⟩ = some (.int .u64 b) := (blk_cell HS.out 1).trans rfl
      have k2 : wr.cell? ⟨w.heap.size + 1, 2, none⟩ = some (.int .u64 c) := (blk_cell HS.out 2).trans rfl
      have k3 : wr.cell? ⟨w.heap.size + 1, 3, none⟩ = some (.int .u64 d) := (blk_cell HS.out 3).trans rfl
      have hlt2 := blk_lt HS.out
      go_wp2_with fail
      go_region_with ((first
        | (go_at_call 18; refine (hc.out _ (by first | exact HI.out | exact Kd.C_drew HI.out)).mono ?_; rintro e w3 ⟨rfl, hb3⟩; have HS3 := Aside0.mk (blk_below (w1 := w3) (show (World.drew wr).heap[w.heap.size + 1]? = some (.cells (SS.cs ⟨a, b, c, d⟩) 43 (0, 0)) from HS.out) hb3); have HO3 := Aside0.mk (blk_below (w1 := w3) (show (World.drew wr).heap[w.heap.size]? = some (.cells zeroC 29 (0, 0)) from HO.out) hb3); have HB3 := Aside0.mk (below_step (below_drew HB.out) hb3); clear k0 k1 k2 k3 hb3; have k0 : w3.cell? ⟨w.heap.size + 1, 0, none⟩ = some (.int .u64 a) := (blk_cell HS3.out 0).trans rfl; have k1 : w3.cell? ⟨w.heap.size + 1, 1, none⟩ = some (.int .u64 b) := (blk_cell HS3.out 1).trans rfl; have k2 : w3.cell? ⟨w.heap.size + 1, 2, none⟩ = some (.int .u64 c) := (blk_cell HS3.out 2).trans rfl; have k3 : w3.cell? ⟨w.heap.size + 1, 3, none⟩ = some (.int .u64 d) := (blk_cell HS3.out 3).trans rfl)
        | (go_at_call 17; refine (hcu.out _).mono ?_; rintro e w4 ⟨rfl, hb4⟩; have HS4 := Aside0.mk (blk_below HS3.out hb4); have HO4 := Aside0.mk (blk_below HO3.out hb4); have HB4 := Aside0.mk (below_step HB3.out hb4); clear hb4 k0 k1 k2 k3; have k0 : w4.cell? ⟨w.heap.size + 1, 0, none⟩ = some (.int .u64 a) := (blk_cell HS4.out 0).trans rfl; have k1 : w4.cell? ⟨w.heap.size + 1, 1, none⟩ = some (.int .u64 b) := (blk_cell HS4.out 1).trans rfl; have k2 : w4.cell? ⟨w.heap.size + 1, 2, none⟩ = some (.int .u64 c) := (blk_cell HS4.out 2).trans rfl; have k3 : w4.cell? ⟨w.heap.size + 1, 3, none⟩ = some (.int .u64 d) := (blk_cell HS4.out 3).trans rfl; have f0 := blk_frozen HS4.out 0; have f1 := blk_frozen HS4.out 1; have f2 := blk_frozen HS4.out 2; have f3 := blk_frozen HS4.out 3)))
      all_goals go_wp2
      all_goals go_roundw
      all_goals try (have := HL1.out; (try rw [HW.out]); simp [intOf]; omega)
      all_goals first
        | (exact ⟨n + 1, by first | (rw [HW.out]; done) | rfl, ⟨HL1.out⟩, ⟨by rw [HD.out]; exact put4_at HS4.out ⟨a', b', c', d'⟩⟩, ⟨put4_far HO4.out (by omega) ⟨a', b', c', d'⟩⟩, ⟨put4_below HB4.out (by omega) ⟨a', b', c', d'⟩⟩⟩)
        | (refine ⟨n + 1, by first | (rw [HW.out]; done) | rfl, ⟨HL1.out⟩, ⟨?_⟩, ⟨?_⟩, ⟨?_⟩⟩)
    · have c2b0 : decide ((n : Int) < (l0.length : Int)) = false := decide_eq_false (by omega)
      have c2b1 : decide (n < l0.length) = false := decide_eq_false hlt
      rw [List.take_of_length_le (by omega)] at HS
      clear hlt
      obtain ⟨s, hs⟩ : ∃ s, s = allS l0 := ⟨_, rfl⟩
      rw [← hs] at HS HLF
      have HLB := Aside0.mk (listS_b s)
      have HLL := Aside0.mk (listS_len s)
      have HLC := Aside0.mk (fun w => list_calls s w)
      rw [← HLF.out] at HLB HLL HLC
      obtain ⟨a, b, c, d⟩ := s
      clear hs
      unfold SS.val at HLC
      dsimp only at HLC
      have k0 : wr.cell? ⟨w.heap.size + 1, 0, none⟩ = some (.int .u64 a) := (blk_cell HS.out 0).trans rfl
      have k1 : wr.cell? ⟨w.heap.size + 1, 1, none⟩ = some (.int .u64 b) := (blk_cell HS.out 1).trans rfl
      have k2 : wr.cell? ⟨w.heap.size + 1, 2, none⟩ = some (.int .u64 c) := (blk_cell HS.out 2).trans rfl
      have k3 : wr.cell? ⟨w.heap.size + 1, 3, none⟩ = some (.int .u64 d) := (blk_cell HS.out 3).trans rfl
      have HOX := Aside0.mk (blk_alloc HO.out (.cells zeroC 29))
      have HNX := Aside0.mk (blk_new wr (.cells zeroC 29))
      have HBX := Aside0.mk (below_alloc HB.out (.cells zeroC 29))
      have hgl : w.heap.size + 1 < wr.heap.size := blk_lt HS.out
      have HSX := Aside0.mk (blk_alloc HS.out (.cells zeroC 29))
      replace k0 : (wr.alloc (.cells zeroC 29)).cell? ⟨w.heap.size + 1, 0, none⟩ = some (.int .u64 a) := (blk_cell HSX.out 0).trans rfl
      replace k1 : (wr.alloc (.cells zeroC 29)).cell? ⟨w.heap.size + 1, 1, none⟩ = some (.int .u64 b) := (blk_cell HSX.out 1).trans rfl
      replace k2 : (wr.alloc (.cells zeroC 29)).cell? ⟨w.heap.size + 1, 2, none⟩ = some (.int .u64 c) := (blk_cell HSX.out 2).trans rfl
      replace k3 : (wr.alloc (.cells zeroC 29)).cell? ⟨w.heap.size + 1, 3, none⟩ = some (.int .u64 d) := (blk_cell HSX.out 3).trans rfl
      go_wp2_with fail
      refine (HLC.out _).mono ?_
      rintro e w3 ⟨v, rfl, hr, hb3⟩
      obtain ⟨AL, cL, eL⟩ := Kd.R_slice hr
      subst eL
      have HO3 := Aside0.mk (blk_below HOX.out hb3)
      have HN3 := Aside0.mk (blk_below HNX.out hb3)
      have HB3 := Aside0.mk (below_step HBX.out hb3)
      have HR3 := Aside0.mk (Kd.R_mono (ok' := fun k => k ≠ w.heap.size ∧ k ≠ wr.heap.size) (Kd.R_bound hr) (fun k hk => by have := hk.2.1; rw [World.size_alloc] at this; omega))
      rw [World.size_alloc] at HR3
      clear k0 k1 k2 k3 hr hb3 HOX HNX HBX HSX HS HO HB
      generalize hgw : wr.heap.size = g at hgl HN3 HR3 ⊢
      clear hgw
      go_wp2
      go_loopw [23] (fun v23 ws => ∃ m : Nat, v23 = .int .i64 (m : Int) ∧ Aside0 (m ≤ LF.length) ∧ Aside0 (Kd.R (Kd.int .u8) 5 ws (g + 1) (fun k => k ≠ w.heap.size ∧ k ≠ g) (.slice AL LF.length cL) LF) ∧ Aside0 (ws.heap[g]? = some (.cells (clsN LF m) 29 (0, 0))) ∧ Aside0 (ws.heap[w.heap.size]? = some (.cells zeroC 29 (0, 0))) ∧ Aside0 (Below w.heap.size w ws)) (fun i _ => LF.length - (intOf i).toNat)
      case atStart => exact ⟨0, rfl, ⟨Nat.zero_le _⟩, HR3, HN3, HO3, HB3⟩
      case round =>
        clear HR3 HN3 HO3 HB3
        obtain ⟨m, rfl, HLm, HRm, HNm, HOm, HBm⟩ := hrel
        have HCN := Aside0.mk (clsN_cnt LF HLB.out m HLm.out)
        have HSZ := Aside0.mk (clsN_size LF m)
        by_cases hlt : m < LF.length
        · have c2b0 : decide ((m : Int) < (LF.length : Int)) = true := decide_eq_true (by omega)
          have c2b1 : decide (m < LF.length) = true := decide_eq_true hlt
          have p101 : 0 ≤ (m : Int) := by omega
          have q101 : (m : Int) < (LF.length : Int) := by omega
          obtain ⟨go8, co8, eo8, gb8, gl8, cl8, HG8⟩ := Kd.R_form HRm.out (by omega)
          (first | cases eo8 | (injection eo8 with ea_ en_ ec_; (first | subst ea_ | (injection ea_ with ea_; subst ea_)); subst ec_; clear en_))
          obtain ⟨hx8_0, hf8_0⟩ := Kd.R_celln 0 HRm.out (m : Int) p101 q101
          rw [Int.toNat_natCast] at hx8_0 hf8_0
          have hxb : 0 ≤ rdOf 0 LF (m : Int) ∧ rdOf 0 LF (m : Int) < 256 := by
            unfold rdOf
            rw [Int.toNat_natCast, List.getD_eq_getElem?_getD, List.getElem?_eq_getElem hlt]
            exact HLB.out _ (List.getElem_mem hlt)
          have hst : clsN LF (m + 1) = stepC (clsN LF m) m (rdOf 0 LF (m : Int)) := by
            show stepC _ _ _ = _
            unfold rdOf
            rw [Int.toNat_natCast]
          generalize rdOf 0 LF (m : Int) = xb at hx8_0 hxb hst
          obtain ⟨hxb0, hxb1⟩ := hxb
          have HST := Aside0.mk hst
          have HLM := Aside0.mk (show (m : Int) < 256 by have := HLL.out; omega)
          have HW := Aside0.mk (show wrap64 ((m : Int) + 1) = (m : Int) + 1 by have := HLM.out; unfold wrap64; omega)
          clear hst HG8 gb8 gl8 cl8
          generalize clsN LF m = cs at HNm HST HCN HSZ
          have kc : wr.cell? ⟨g, 256, none⟩ = some (.int .i64 (m : Int)) := (blk_cell HNm.out 256).trans HCN.out
          have fc := blk_frozen HNm.out 256
          have hn1 : ¬ xb.toNat = 256 := by omega
          have hn2 : ¬ 256 = xb.toNat := by omega
          obtain ⟨vb, hvb⟩ : ∃ vb, cs[xb.toNat]? = some vb := by
            rw [Array.getElem?_eq_getElem (by rw [HSZ.out]; omega)]
            exact ⟨_, rfl⟩
          have HB1 := Aside0.mk (blk_set HNm.out 256 (.int .i64 (wrap64 ((m : Int) + 1))))
          have kb : (wr.setCell ⟨g, 256, none⟩ (.int .i64 (wrap64 ((m : Int) + 1)))).cell? ⟨g, xb.toNat, none⟩ = some vb := (blk_cell HB1.out xb.toNat).trans (by rw [Array.getElem?_setIfInBounds_ne (by omega)]; exact hvb)
          have kb0 : wr.cell? ⟨g, xb.toNat, none⟩ = some vb := (blk_cell HNm.out xb.toNat).trans hvb
          have fb0 := blk_frozen HNm.out xb.toNat
          have fb := blk_frozen HB1.out xb.toNat
          have HBB := Aside0.mk (show Below w.heap.size w ((wr.setCell ⟨g, 256, none⟩ (.int .i64 (wrap64 ((m : Int) + 1)))).setCell ⟨g, xb.toNat, none⟩ (.int .i64 (wrap64 ((m : Int) + 1)))) from below_set (below_set HBm.out (by show w.heap.size ≤ g; omega)) (by show w.heap.size ≤ g; omega))
          have HB2 := Aside0.mk (blk_set HB1.out xb.toNat (.int .i64 (wrap64 ((m : Int) + 1))))
          have HB3 := Aside0.mk (blk_far (blk_far HOm.out (p := ⟨g, 256, none⟩) (by show w.heap.size ≠ g; omega) (.int .i64 (wrap64 ((m : Int) + 1)))) (p := ⟨g, xb.toNat, none⟩) (by show w.heap.size ≠ g; omega) (.int .i64 (wrap64 ((m : Int) + 1))))
          have HB4 := Aside0.mk (Kd.R_far (Kd.R_far HRm.out (p := ⟨g, 256, none⟩) (fun k hk => hk.2) (.int .i64 (wrap64 ((m : Int) + 1)))) (p := ⟨g, xb.toNat, none⟩) (fun k hk => hk.2) (.int .i64 (wrap64 ((m : Int) + 1))))
          have HLT := Aside0.mk hlt
          have HST2 := Aside0.mk (show clsN LF (m + 1) = (cs.setIfInBounds 256 (.int .i64 (wrap64 ((m : Int) + 1)))).setIfInBounds xb.toNat (.int .i64 (wrap64 ((m : Int) + 1))) by rw [HST.out]; unfold stepC; rw [HW.out])
          clear hvb hlt
          go_wp2
          go_roundw
          case rel => exact ⟨m + 1, by first | (rw [HW.out]; rfl) | rfl, ⟨HLT.out⟩, HB4, ⟨by rw [HST2.out]; exact HB2.out⟩, HB3, HBB⟩
          case measure => have := HLT.out; (try rw [HW.out]); simp [intOf]; omega
        · have c2b0 : decide ((m : Int) < (LF.length : Int)) = false := decide_eq_false (by omega)
          have c2b1 : decide (m < LF.length) = false := decide_eq_false hlt
          obtain rfl : m = LF.length := by have := HLm.out; omega
          clear hlt
          have HON := Aside0.mk (clsN_one LF LF.length)
          obtain ⟨cs, hcs⟩ : ∃ cs, cs = clsN LF LF.length := ⟨_, rfl⟩
          rw [← hcs] at HON HNm HSZ
          have HCS := Aside0.mk hcs
          clear hcs HCN
          have hcl : cs.toList.length = 257 := by simpa using HSZ.out
          have HI1 := Aside0.mk (show (Try.prog.info? 29).map (·.size) = some cs.toList.length by rw [hcl]; exact info29)
          have HI2 := Aside0.mk (show (Try.prog.info? 29).map (·.size) = some cs.size by rw [HSZ.out]; exact info29)
          have HRG := Aside0.mk (range_of HNm.out)
          have hst := run_storeCells_from (P := Try.prog) w.heap.size 29 cs.toList 0 zeroC wr HOm.out (by rw [hcl]; simp [zeroC]) (fun v hv => (Array.all_eq_true_iff_forall_mem.1 HON.out) v (by simpa using hv))
          rw [List.take_zero, List.nil_append, Array.toArray_toList] at hst
          have HG := Aside0.mk (setRow_heap _ w.heap.size zeroC cs 29 (0, 0) HOm.out)
          have HBB := Aside0.mk (below_setRow HBm.out (Nat.le_refl _) cs)
          go_wp2
          refine wp_load_mid 29 (.tmp 6) rfl g 0 rfl cs.toList _ HRG.out Try.underlying29 rfl HI1.out ?_
          go_wp2
          refine bodyPost_ret (results_single rfl (Vals.cell w.heap.size 29 cs (0, 0) _ rfl HG.out Try.underlying29 rfl HI2.out Vals.nil)) rfl ?_
          exact ⟨by rw [HCS.out], HBB.out⟩
end Go.Proofs.Ytongadhccpfpeaa.Base9
