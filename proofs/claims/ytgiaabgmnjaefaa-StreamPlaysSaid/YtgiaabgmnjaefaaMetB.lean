/- Copy and Read, counted, of any meter or none; a clone of bytes. -/
import Derived.Test.YtgiaabgmnjaefaaMetA
import Derived.Deep.RegionHeld3
import Derived.Deep.QuietTactic
import Derived.BigQuiet
import Derived.Deep.DeepCutAuto
import Derived.Deep.CutBlock
import Derived.RowKit
namespace Go.Proofs.Ytgiaabgmnjaefaa.Met
open Go Go.RowKit Go.Proofs Go.Proofs.YtgiaabgmnjaefaaW.PrintWords Go.Proofs.YtgiaabgmnjaefaaW.PrintMore
set_option linter.unusedVariables false
set_option linter.unusedSimpArgs false
/-- bytes do not lie in a meter -/
theorem far_met {w : World} {A : Option Addr} {l : List Int} {M : Option Nat} {a b c d : Int} (hM : MAt w M a b c d) (h : Kd.C (Kd.int .u8) w A l.length l) (hp : 0 < l.length) : ∀ ad, A = some ad → M ≠ some ad.block := by
  intro ad e hm
  obtain ⟨ad2, hA, hx⟩ := Kd.at_int h 0 (by omega) (by omega)
  rw [e] at hA
  cases hA
  have hb := hM _ hm
  have e2 : (ad.add (0 : Int).toNat) = ad := by unfold Addr.add; simp
  rw [e2] at hx
  unfold World.cell? at hx
  rw [hb] at hx
  dsimp only at hx
  split at hx
  · cases hx
  · have := (Array.getElem?_eq_some_iff.mp hx)
    obtain ⟨h1, h2⟩ := this
    simp only [List.size_toArray, List.length_cons, List.length_nil] at h1
    have : ad.off = 0 ∨ ad.off = 1 ∨ ad.off = 2 ∨ ad.off = 3 := by omega
    rcases this with h | h | h | h <;> (simp only [h] at h2; cases h2)
theorem src_of {w : World} {A : Option Addr} {l : List Int} (h : Kd.C (Kd.int .u8) w A l.length l) (hp : 0 < l.length) : ∃ ad, A = some ad ∧ ∀ j x, l[j]? = some x → w.cell? (ad.add j) = some (.int .u8 x) := by
  obtain ⟨ad, hA, _⟩ := Kd.at_int h 0 (by omega) (by omega)
  refine ⟨ad, hA, fun j x hx => ?_⟩
  have hj := (List.getElem?_eq_some_iff.mp hx).1
  obtain ⟨ad2, hA2, h2⟩ := Kd.at_int h (j : Int) (by omega) (by omega)
  rw [hA] at hA2
  cases hA2
  rw [Int.toNat_natCast] at h2
  rw [h2]
  unfold rd
  rw [Int.toNat_natCast, List.getD_eq_getElem?_getD, hx]
  rfl
theorem far_of {w : World} {A : Option Addr} {l : List Int} (h : Kd.C (Kd.int .u8) w A l.length l) (hp : 0 < l.length) : ∀ ad, A = some ad → ad.block < w.heap.size := by
  intro ad e
  obtain ⟨ad2, hA, hx⟩ := src_of h hp
  rw [e] at hA
  cases hA
  have := World.block_lt_of_cell? _ _ (hx 0 _ (List.getElem?_eq_getElem hp))
  have e2 : (ad.add 0).block = ad.block := by unfold Addr.add; split <;> rfl
  rwa [e2] at this
theorem add_block (ad : Addr) (n : Nat) : (ad.add n).block = ad.block := by unfold Addr.add; split <;> rfl
theorem u8s_C (w : World) (g : Nat) (l : List Int) (h : w.heap[g]? = some (.cells (u8s l) 5 (0, 0))) (hm : l.length ≤ 9223372036854775807) : Kd.C (Kd.int .u8) w (some ⟨g, 0, none⟩) l.length l := by
  refine Kd.C_of_reads (d := (0 : Int)) (h1 := fun _ => rfl) ⟨rfl, hm, fun _ => ⟨_, rfl, fun j hj => ?_⟩⟩
  rw [Addr.add_mid, Nat.zero_add]
  refine (blk_cell h j).trans ?_
  rw [u8s_get, List.getD_eq_getElem?_getD, List.getElem?_eq_getElem hj]
  rfl
set_option maxHeartbeats 4000000 in
set_option maxRecDepth 100000 in
/-- Copy, counted. -/
theorem copy_any (M : Option Nat) (a b c d : Int) (gb off : Nat) (buf cs : List Int) (dp sp : Option Addr) (dLen dCap sLen sCap B : Nat) (w : World)
    (hM : MAt w M a b c d) (hbuf : w.heap[gb]? = some (.cells (u8s buf) 5 (0, 0))) (hn : cs.length = Nat.min sLen dLen)
    (hpd : 0 < cs.length → dp = some ⟨gb, off, none⟩) (hps : 0 < cs.length → ∃ ad, sp = some ad ∧ ∀ j x, cs[j]? = some x → w.cell? (ad.add j) = some (.int .u8 x))
    (hfit : off + cs.length ≤ buf.length) (hne : M ≠ some gb) (hB : B ≤ gb) (hBM : ∀ k, M = some k → B ≤ k) (hd0 : 0 ≤ d) (hd1 : d + cs.length ≤ 1000000000000) :
    Calls Try.prog 39 #[.pointer (mp M), .slice dp dLen dCap, .slice sp sLen sCap] w fun e w' => e = .returned (.int .i64 (cs.length : Int)) ∧ w'.heap[gb]? = some (.cells (u8s (splice buf off cs)) 5 (0, 0)) ∧ MAt w' M a b c (d + cs.length) ∧ Kept w w' (fun k => k = gb ∨ M = some k) ∧ Below B w w' := by
  have HBUF := Aside0.mk hbuf
  have HM := Aside0.mk hM
  have HPD := Aside0.mk hpd
  have HPS := Aside0.mk hps
  have HFIT := Aside0.mk hfit
  have HN := Aside0.mk hn
  have HNE := Aside0.mk hne
  have HBM := Aside0.mk hBM
  have HB := Aside0.mk hB
  have HBW := Aside0.mk (show B ≤ w.heap.size by have := blk_lt hbuf; omega)
  clear hbuf hM hpd hps hfit hn hne hBM hB
  go_enter Try.func39, Try.ntmps39
  go_wp2_with ((with_reducible refine gate_dst (N := 10) rfl ?_); refine wpList_copy_kept rfl (.tmp 8) (.tmp 9) 38 38 rfl 5 Try.underlying38 info5s dp sp dLen dCap sLen sCap rfl rfl gb off buf cs 5 HBUF.out HN.out HPD.out HPS.out HFIT.out B w (Below.refl _ _) HB.out ?_; intro w2 hg2 hk2 hb2)
  have HM2 := Aside0.mk (HM.out.kept hk2 (fun k hk e => HNE.out (by rw [hk, e])))
  have HG2 := Aside0.mk hg2
  have HK2 := Aside0.mk hk2
  have HB2 := Aside0.mk hb2
  clear hg2 hk2 hb2
  go_wp2_with fail
  refine (count_any M a b c d _ HM2.out).mono ?_
  rintro e w3 ⟨g, T, x, rfl, hC⟩
  obtain ⟨v, hx, k0, h0, h1⟩ := hC.at_ 3 (by decide)
  have f0 := blk_frozen hC.blk 3
  have hv0 : 0 ≤ v := by
    by_cases hm : M = none
    · rw [h0 hm]; exact Int.le_refl _
    · have := h1 hm; simp at this; omega
  have hv1 : v + cs.length ≤ 1000000000000 := by
    by_cases hm : M = none
    · rw [h0 hm]; omega
    · have := h1 hm; simp at this; omega
  have HP := Aside0.mk (hC.put 3 (v + cs.length) a b c (d + cs.length) (fun hm => by have := h1 hm; simp at this; rw [this]; rfl))
  clear hx h0 h1 hC
  go_wp2
  go_ret
  have hp := HP.out
  refine ⟨rfl, ?_, hp.met, ?_, ?_⟩
  · exact blk_kept HG2.out hp.kept HNE.out
  · exact Kept.then_ (S2 := fun k => M = some k) (Kept.mono HK2.out (fun k hk => Or.inl hk)) hp.kept (fun k hk => Or.inl (Or.inr hk))
  · exact Below.trans HB2.out (hp.bel B (by have := HK2.out.1; have := HBW.out; omega) HBM.out)
set_option maxHeartbeats 4000000 in
set_option maxRecDepth 100000 in
/-- A byte that is there is read, and counted. -/
theorem read_in (M : Option Nat) (a b c d : Int) (A : Option Addr) (n cap : Nat) (l : List Int) (i : Int) (w : World) (hM : MAt w M a b c d) (hr : Kd.C (Kd.int .u8) w A n l) (hn : n = l.length) (h0 : 0 ≤ i) (h1 : i < (n : Int)) (hc0 : 0 ≤ c) (hc1 : c ≤ 1000000000000) :
    Calls Try.prog 28 #[.pointer (mp M), .slice A n cap, .int .i64 i] w fun e w' => e = .returned (.tuple #[.int .u8 (rd l i), .bool true]) ∧ Put w w' M a b (c + 1) d := by
  subst hn
  have HM := Aside0.mk hM
  have HR := Aside0.mk hr
  have HF := Aside0.mk (far_met hM hr (by omega))
  have d1 : decide (i < 0) = false := decide_eq_false (by omega)
  have d2 : decide (i ≥ (l.length : Int)) = false := decide_eq_false (by omega)
  have d3 : decide ((l.length : Int) ≤ i) = false := decide_eq_false (by omega)
  have d4 : decide (i < (l.length : Int)) = true := decide_eq_true h1
  clear hM hr
  go_enter Try.func28, Try.ntmps28
  go_wp2_with fail
  refine (count_any M a b c d _ HM.out).mono ?_
  rintro e w3 ⟨g, T, x, rfl, hC⟩
  obtain ⟨v, hx, k0, h0', h1'⟩ := hC.at_ 2 (by decide)
  have f0 := blk_frozen hC.blk 2
  have hv0 : 0 ≤ v := by
    by_cases hm : M = none
    · rw [h0' hm]; exact Int.le_refl _
    · have := h1' hm; simp at this; omega
  have hv1 : v ≤ 1000000000000 := by
    by_cases hm : M = none
    · rw [h0' hm]; omega
    · have := h1' hm; simp at this; omega
  have HP := Aside0.mk (hC.put 2 (v + 1) a b (c + 1) d (fun hm => by have := h1' hm; simp at this; rw [this]; rfl))
  obtain ⟨ad, rfl, hcl⟩ := Kd.at_int (Kd.C_below HR.out hC.bel) i h0 h1
  have hne : ad.block ≠ g := by
    intro e
    cases M with
    | none =>
      have h2 := far_of HR.out (by omega) ad rfl
      have := (hC.new rfl).1
      omega
    | some k =>
      obtain ⟨e2, _⟩ := hC.here k rfl
      exact HF.out ad rfl (by rw [e2, e])
  have hcl2 : (w3.setCell ⟨g, 2, none⟩ (.int .i64 (v + 1))).cell? (ad.add i.toNat) = some (.int .u8 (rd l i)) := by
    unfold World.cell?
    rw [Below.heap_setCell _ _ _ _ (by rw [add_block]; exact hne)]
    exact hcl
  clear hx h0' h1' hC hcl
  go_wp2
  go_ret2
  exact ⟨rfl, HP.out⟩
set_option maxHeartbeats 4000000 in
set_option maxRecDepth 100000 in
theorem read_out (M : Option Addr) (A : Option Addr) (n cap : Nat) (i : Int) (w : World) (h : i < 0 ∨ (n : Int) ≤ i) :
    Calls Try.prog 28 #[.pointer M, .slice A n cap, .int .i64 i] w fun e w' => e = .returned (.tuple #[.int .u8 0, .bool false]) ∧ Below w.heap.size w w' := by
  by_cases h0 : i < 0
  · have d1 : decide (i < 0) = true := decide_eq_true h0
    go_enter Try.func28, Try.ntmps28
    go_wp2
    go_ret2
    exact ⟨rfl, Below.refl _ _⟩
  · have d1 : decide (i < 0) = false := decide_eq_false h0
    have d2 : decide (i ≥ (n : Int)) = true := decide_eq_true (by omega)
    go_enter Try.func28, Try.ntmps28
    go_wp2
    go_ret2
    exact ⟨rfl, Below.refl _ _⟩
theorem info5 : (Try.prog.info? 5).map (fun i => (i.zero, i.size, i.bytes)) = some (some (.int .u8 0), 1, 1) := by kernel_rfl
set_option maxHeartbeats 8000000 in
set_option maxRecDepth 100000 in
theorem clone_calls (A0 : Option Addr) (c0 : Nat) (l0 : List Int) (n : Nat) (w : World) (hr0 : Kd.C (Kd.int .u8) w A0 l0.length l0) (hc0 : l0.length ≤ c0) (hn : n = l0.length) (hl : l0.length < 140737488355328) :
    Calls Try.prog 34 #[.slice A0 n c0] w fun e w' => ∃ v0_ : Value, e = .returned v0_ ∧ Kd.R (Kd.int .u8) 5 w' w.heap.size (fun _ => True) v0_ l0 ∧ Below w.heap.size w w' := by
  subst hn
  have HR := Aside0.mk hr0
  cases A0 with
  | none =>
    have h0 : l0 = [] := by
      rcases Nat.eq_zero_or_pos l0.length with h | h
      · exact List.length_eq_zero_iff.mp h
      · obtain ⟨ad, e, _⟩ := hr0.2.2 h
        cases e
    subst h0
    clear hr0 hc0 hl
    have heq := Lib.run_eql_slice_nil (P := Try.prog) w 38 5 none 0 c0 0 0 Try.underlying38
    go_enter Try.func34, Try.ntmps34
    go_wp2
    go_ret
    exact ⟨_, rfl, Kd.R_nil _ _ _ _ _, Below.refl _ _⟩
  | some ad =>
    clear hr0
    have heq := Lib.run_eql_slice_nil (P := Try.prog) w 38 5 (some ad) l0.length c0 0 0 Try.underlying38
    have HO := Aside0.mk (show Kd.R (Kd.int .u8) 5 (w.alloc (.cells #[] 5)) w.heap.size (fun _ => True) (.slice (some ⟨w.heap.size, 0, none⟩) 0 0) [] from
      ⟨fun _ _ => trivial, [], World.ownsRow_lit (base := w.heap.size) (e := 5) (size := 1) w #[] 0 (Nat.le_refl _) (by decide) (by simp), Reps.none _ _⟩)
    have HX := Aside0.mk (Kd.C_alloc HR.out (.cells #[] 5))
    have HB := Aside0.mk (below_alloc (Below.refl w.heap.size w) (.cells #[] 5))
    go_enter Try.func34, Try.ntmps34
    go_wp2_with (at_builtin; refine Kd.R_append_rows (Kd.int .u8) (w0 := w) w.heap.size rfl (.tmp 5) (.tmp 6) 38 5 (.int .u8 0) 1 rfl Try.underlying38 info5 rfl (by decide) (by decide) (.slice (some ⟨w.heap.size, 0, none⟩) 0 0) [] l0 (some ad) l0.length c0 (fun _ => True) (fun _ => False) rfl rfl HO.out HX.out (fun _ _ h => h) (fun _ h => h.elim) (fun _ _ => trivial) HB.out (by simp) (by simpa using Nat.le_of_lt hl) ?_; intro v1 w1 hr1 hb1 hg1 hat1)
    go_ret
    exact ⟨_, rfl, by simpa using hr1, hb1⟩
end Go.Proofs.Ytgiaabgmnjaefaa.Met
