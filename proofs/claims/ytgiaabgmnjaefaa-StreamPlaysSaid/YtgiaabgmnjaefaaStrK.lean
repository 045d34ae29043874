/- Rows of lines, read; the example. -/
import Derived.Test.YtgiaabgmnjaefaaStrI
import Derived.Deep.RegionHeld3
import Derived.Lib.SlBytesConst
section
namespace Go.Proofs.Ytgiaabgmnjaefaa.Str
open Go Go.RowKit Go.Proofs Go.Proofs.Ytgiaabgmnjaefaa.Met Go.Proofs.Ytgiaabgmnjaefaa.Win Go.Proofs.YtgiaabgmnjaefaaW.PrintWords Go.Proofs.YtgiaabgmnjaefaaW.PrintMore
set_option linter.unusedVariables false
set_option linter.unusedSimpArgs false
attribute [local go_sem] max2_int min2_int max_two min_two max_three min_three
theorem add_tail (ad : Addr) (n j : Nat) : ad.add (n + (j + 1)) = ⟨(ad.add n).block, (ad.add n).off + (j + 1), none⟩ := by
  unfold Addr.add
  rw [if_neg (by omega)]
  by_cases h : n = 0
  · subst h; rw [if_pos rfl, Nat.zero_add]
  · rw [if_neg h]; simp only [Nat.add_assoc]
theorem line_at {w : World} {A : Option Addr} {n : Nat} {xs : List Ln} (h : Kd.C kL w A n xs) (i : Nat) (x : Ln) (hx : xs[i]? = some x) : ∃ ad At ct, A = some ad ∧ w.cell? (ad.add (i * 3)) = some (.int .i64 x.1) ∧ w.cell? ⟨(ad.add (i * 3)).block, (ad.add (i * 3)).off + 1, none⟩ = some (.int .i64 x.2.1) ∧ w.cell? ⟨(ad.add (i * 3)).block, (ad.add (i * 3)).off + 2, none⟩ = some (.slice At x.2.2.length ct) ∧ x.2.2.length ≤ ct ∧ Kd.C (Kd.int .u8) w At x.2.2.length x.2.2 := by
  have hi : i < xs.length := (List.getElem?_eq_some_iff.1 hx).1
  obtain ⟨ad, e, hc⟩ := h.2.2 (by have := h.1; omega)
  obtain ⟨c, hs, hr, hcell⟩ := hc i x hx
  obtain ⟨c0, c1, rfl, hr0, c2, c3, rfl, hr1, At, ct, rfl, hl, hC⟩ := hr
  obtain rfl : c0 = [.int .i64 x.1] := hr0
  obtain rfl : c2 = [.int .i64 x.2.1] := hr1
  have hsz : kL.sz = 3 := rfl
  refine ⟨ad, At, ct, e, ?_, ?_, ?_, hl, hC⟩
  · have := hcell 0 _ rfl
    rw [hsz] at this
    exact this
  · have := hcell 1 _ rfl
    rw [hsz, add_tail _ _ 0] at this
    exact this
  · have := hcell 2 _ rfl
    rw [hsz, add_tail _ _ 1] at this
    exact this
end Go.Proofs.Ytgiaabgmnjaefaa.Str
end
/- The example; a law's own stream. -/
section
namespace Go.Proofs.Ytgiaabgmnjaefaa.Str
open Go Go.RowKit Go.Proofs Go.Proofs.Ytgiaabgmnjaefaa.Met Go.Proofs.Ytgiaabgmnjaefaa.Win Go.Proofs.YtgiaabgmnjaefaaW.PrintWords Go.Proofs.YtgiaabgmnjaefaaW.PrintMore
set_option linter.unusedVariables false
set_option linter.unusedSimpArgs false
attribute [local go_sem] max2_int min2_int max_two min_two max_three min_three
theorem bd_new (most : Int) (c : Nat) : Bd (newSS most c) c := ⟨Nat.zero_le _, Nat.zero_le _, Nat.zero_le _, Nat.zero_le _, Nat.zero_le _, Nat.le_refl _⟩
theorem foot_low {w : World} {B gs gw : Nat} {M : Option Nat} {A : Option Addr} {s : SS} (h : StrAt w B gs gw M A s) : ∀ k, Foot gs gw M A k → B ≤ k := by
  rintro k (rfl | rfl | e | ⟨ad, e, rfl⟩)
  · exact h.low.1
  · exact h.low.2.1
  · exact h.low.2.2.1 k e
  · exact h.low.2.2.2 ad e
/-- a law's chunks lie apart from its stream -/
theorem src_arg {w0 w : World} {gs gw : Nat} {M : Option Nat} {A Al : Option Addr} {s : SS} {L : List (List Int)} (hC : Kd.C kB w0 Al L.length L) (hb : Below w0.heap.size w0 w) (h : StrAt w w0.heap.size gs gw M A s) : Src w gs gw M A Al L := by
  intro i hi
  obtain ⟨ad, Ab, cb, e, hc, hcb, hr⟩ := row_at hC i hi
  have hl := foot_low h
  have hlt := cell_lt' hc
  rw [Met.add_block] at hlt
  exact ⟨ad, Ab, cb, e, fun hf => by have := hl _ hf; omega, pw_cell_below hb hc, hcb, Kd.C_below hr hb, fun hp a2 e2 hf => by have := hl _ hf; have := Met.far_of hr hp a2 e2; omega⟩
def awL : List (List Int) := [[97, 98], [99, 10, 100], [10]]
theorem awR : runF (newSS 9 0) awL = (⟨⟨[], 16, 4⟩, 9, 2, 6, 6, true, 0⟩, [(0, 0, [97, 98, 99]), (1, 4, [100])]) := by kernel_rfl
theorem const_reads (w : World) (xs : List Int) (e : TypeId) (fr : Nat × Nat) (hm : xs.length ≤ 9223372036854775807) :
    Kd.C (Kd.int .u8) (w.alloc (.cells (xs.map (Value.int .u8)).toArray e fr)) (some ⟨w.heap.size, 0, none⟩) xs.length xs := by
  refine Kd.C_of_reads (d := (0 : Int)) (h1 := fun _ => rfl) ⟨rfl, hm, fun _ => ⟨_, rfl, fun j hj => ?_⟩⟩
  rw [add_plain, World.cell?_alloc_mark]
  simp [List.getD_eq_getElem?_getD, List.getElem?_eq_getElem hj]
def wA (w : World) : World := w.alloc (.cells #[.int .u8 97, .int .u8 98] 5 (2, 3))
def wB (w : World) : World := (wA w).alloc (.cells #[.int .u8 99, .int .u8 10, .int .u8 100] 5 (3, 4))
def wC (w : World) : World := (wB w).alloc (.cells #[.int .u8 10] 5 (1, 2))
def wD (w : World) : World := (wC w).alloc (.cells #[.slice (some ⟨w.heap.size, 0, none⟩) 2 2, .slice (some ⟨w.heap.size + 1, 0, none⟩) 3 3, .slice (some ⟨w.heap.size + 2, 0, none⟩) 1 1] 38)
theorem wA_size (w : World) : (wA w).heap.size = w.heap.size + 1 := World.size_alloc _ _
theorem wB_size (w : World) : (wB w).heap.size = w.heap.size + 2 := by unfold wB; rw [World.size_alloc, wA_size]
theorem wC_size (w : World) : (wC w).heap.size = w.heap.size + 3 := by unfold wC; rw [World.size_alloc, wB_size]
theorem wD_below (w : World) : Below w.heap.size w (wD w) := below_alloc (below_alloc (below_alloc (below_alloc (Below.refl _ _) _) _) _) _
theorem wD_src {w : World} {B gs gw : Nat} {M : Option Nat} {A : Option Addr} {s : SS} (h : StrAt w B gs gw M A s) : Src (wD w) gs gw M A (some ⟨w.heap.size + 3, 0, none⟩) awL := by
  have hlt := foot_lt h
  have hb := blk_new (wC w) (.cells #[.slice (some ⟨w.heap.size, 0, none⟩) 2 2, .slice (some ⟨w.heap.size + 1, 0, none⟩) 3 3, .slice (some ⟨w.heap.size + 2, 0, none⟩) 1 1] 38)
  rw [wC_size] at hb
  have c0 := Kd.C_alloc (Kd.C_alloc (Kd.C_alloc (const_reads w [97, 98] 5 (2, 3) (by decide)) (.cells (([99, 10, 100] : List Int).map (Value.int .u8)).toArray 5 (3, 4))) (.cells (([10] : List Int).map (Value.int .u8)).toArray 5 (1, 2))) (.cells #[.slice (some ⟨w.heap.size, 0, none⟩) 2 2, .slice (some ⟨w.heap.size + 1, 0, none⟩) 3 3, .slice (some ⟨w.heap.size + 2, 0, none⟩) 1 1] 38)
  have c1 := Kd.C_alloc (Kd.C_alloc (const_reads (wA w) [99, 10, 100] 5 (3, 4) (by decide)) (.cells (([10] : List Int).map (Value.int .u8)).toArray 5 (1, 2))) (.cells #[.slice (some ⟨w.heap.size, 0, none⟩) 2 2, .slice (some ⟨w.heap.size + 1, 0, none⟩) 3 3, .slice (some ⟨w.heap.size + 2, 0, none⟩) 1 1] 38)
  have c2 := Kd.C_alloc (const_reads (wB w) [10] 5 (1, 2) (by decide)) (.cells #[.slice (some ⟨w.heap.size, 0, none⟩) 2 2, .slice (some ⟨w.heap.size + 1, 0, none⟩) 3 3, .slice (some ⟨w.heap.size + 2, 0, none⟩) 1 1] 38)
  rw [wA_size] at c1
  rw [wB_size] at c2
  intro i hi
  have hf : ∀ k, w.heap.size ≤ k → ¬ Foot gs gw M A k := fun k hk hf => by have := hlt k hf; omega
  match i, hi with
  | 0, _ => exact ⟨_, _, _, rfl, hf _ (Nat.le_add_right _ _), blk_cell hb 0, Nat.le_refl _, c0, fun _ a2 e2 => by cases e2; exact hf _ (Nat.le_refl _)⟩
  | 1, _ => exact ⟨_, _, _, rfl, hf _ (Nat.le_add_right _ _), blk_cell hb 1, Nat.le_refl _, c1, fun _ a2 e2 => by cases e2; exact hf _ (Nat.le_add_right _ _)⟩
  | 2, _ => exact ⟨_, _, _, rfl, hf _ (Nat.le_add_right _ _), blk_cell hb 2, Nat.le_refl _, c2, fun _ a2 e2 => by cases e2; exact hf _ (Nat.le_add_right _ _)⟩
set_option maxHeartbeats 8000000 in
set_option maxRecDepth 100000 in
theorem awake_calls (w : World) :
    Calls Try.prog 10 #[] w fun e w' => e = .returned (.bool true) ∧ Below w.heap.size w w' := by
  go_enter Try.func10, Try.ntmps10
  go_wp2_with fail
  refine (meter_new _).mono ?_
  rintro e w1 ⟨rfl, hw1⟩
  have hM := (show MAt w1 (some w.heap.size) 0 0 ((0 : Nat) : Int) 0 from fun g hg => by cases hg; rw [hw1]; exact blk_new w _)
  have HB1 := Aside0.mk (show Below w.heap.size w w1 by rw [hw1]; exact below_alloc (Below.refl _ _) _)
  have HM := Aside0.mk hM
  have HG := Aside0.mk (show ∀ k, some w.heap.size = some k → w.heap.size ≤ k from fun k e => by cases e; exact Nat.le_refl _)
  clear hM hw1
  obtain ⟨gm, hgm⟩ : ∃ gm, gm = w.heap.size := ⟨_, rfl⟩
  rw [← hgm] at HM HG ⊢
  have HGM := Aside0.mk hgm
  clear hgm
  go_wp2_with fail
  refine (stream_new (some gm) 9 0 w1 w.heap.size HB1.out.size (fun k e => by rw [← HGM.out]; exact HG.out k e) HM.out).mono ?_
  rintro e w2 ⟨gs, gw, rfl, hs, hb2, hgs, hgw⟩
  have HS := Aside0.mk hs
  have HB2 := Aside0.mk (below_step HB1.out hb2)
  clear hs hb2 hgs hgw
  have kc1 := Lib.run_convert_bytes_const (P := Try.prog) w2 38 5 #[.int .u8 97, .int .u8 98] 2 2 Try.underlying38 Try.underlying5
  have kc2 := Lib.run_convert_bytes_const (P := Try.prog) (wA w2) 38 5 #[.int .u8 99, .int .u8 10, .int .u8 100] 3 3 Try.underlying38 Try.underlying5
  have kc3 := Lib.run_convert_bytes_const (P := Try.prog) (wB w2) 38 5 #[.int .u8 10] 1 1 Try.underlying38 Try.underlying5
  rw [wA_size] at kc2
  rw [wB_size] at kc3
  simp only [wB, wA] at kc2 kc3
  have HSRC := Aside0.mk (wD_src HS.out)
  have HSD := Aside0.mk (HS.out.below (wD_below w2))
  go_wp2_with fail
  refine (run_calls (w := wD w2) HSD.out (bd_new 9 0) awL 3 HSRC.out (by decide) (by decide) (by decide) (by decide) (by decide) (by have := HB2.out.size; have := (wD_below w2).size; omega)).mono ?_
  rintro e w3 ⟨v, A', rfl, hr, hl⟩
  rw [awR] at hr hl
  have HL := Aside0.mk (show StrAt w3 w.heap.size gs gw (some gm) A' ⟨⟨[], 16, 4⟩, 9, 2, 6, 6, true, 0⟩ from hl.str)
  have HB3 := Aside0.mk (Below.trans HB2.out (Below.trans ((wD_below w2).mono HB2.out.size) hl.bel))
  obtain ⟨g, cap, hv, _⟩ := Kd.R_form hr (by decide)
  obtain ⟨Av, cv, hv2, hcv, hC⟩ := Kd.R_reads hr
  rw [hv] at hv2
  cases hv2
  subst hv
  have HC3 := Aside0.mk (show Kd.C kL w3 (some ⟨g, 0, none⟩) 2 [(0, 0, [97, 98, 99]), (1, 4, [100])] from hC)
  have HE := Aside0.mk (show Calls Try.prog 20 #[.pointer (some ⟨gs, 0, none⟩)] w3 fun e w' => e = .returned (.tuple #[.int .i64 0, .int .i64 0]) ∧ Below w3.heap.size w3 w' from err_some HL.out)
  clear hr hl hC hcv kc1 kc2 kc3 HSRC HSD HS
  go_wp2_with fail
  refine HE.out.mono ?_
  rintro e w4 ⟨rfl, hb4⟩
  have HL4 := Aside0.mk (HL.out.below hb4)
  have HC4 := Aside0.mk (Kd.C_below HC3.out hb4)
  have HB4 := Aside0.mk (HB3.out.trans (hb4.mono HB3.out.size))
  clear hb4 HE HC3 HL
  obtain ⟨ad0, A0, c0, e0, p0, p1, p2, p3, p4⟩ := line_at HC4.out 0 _ rfl
  obtain ⟨ad1, A1, c1, e1, q0, q1, q2, q3, q4⟩ := line_at HC4.out 1 _ rfl
  cases e0
  cases e1
  dsimp only at p0 p1 p2 p4 q0 q1 q2 q4
  have s0 := Kd.C_string (P := Try.prog) (A := A0) (c := c0) Try.underlying38 Try.underlying5 Try.underlying9 p4
  have s1 := Kd.C_string (P := Try.prog) (A := A1) (c := c1) Try.underlying38 Try.underlying5 Try.underlying9 q4
  have hs0 : strOfNums [97, 98, 99] = ⟨#[97, 98, 99]⟩ := by decide +kernel
  have hs1 : strOfNums [100] = ⟨#[100]⟩ := by decide +kernel
  rw [hs0] at s0
  rw [hs1] at s1
  simp [Addr.add] at p0 p1 p2 q0 q1 q2 s0 s1
  clear hs0 hs1 p3 p4 q3 q4
  have HCT := Aside0.mk (counts_any gm 0 0 6 4 w4 (Win.met HL4.out.win))
  have heq := fun W : World => eqC 0 0 0 6 4 0 0 6 4 W
  go_wp2_with fail
  refine (HCT.out).mono ?_
  rintro e w5 ⟨rfl, hb5⟩
  have HB5 := Aside0.mk (HB4.out.trans (hb5.mono HB4.out.size))
  clear hb5 HCT
  go_wp2
  go_ret
  exact ⟨rfl, HB5.out⟩
end Go.Proofs.Ytgiaabgmnjaefaa.Str
end
