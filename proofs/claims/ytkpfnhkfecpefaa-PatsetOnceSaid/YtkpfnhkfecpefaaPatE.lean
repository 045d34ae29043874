/- The patterns of a file. -/
import Derived.Test.YtkpfnhkfecpefaaPatD
namespace Go.Proofs.Ytkpfnhkfecpefaa.Pat
open Go Go.RowKit Go.Proofs Go.Proofs.YtkpfnhkfecpefaaW.PrintWords Go.Proofs.YtkpfnhkfecpefaaW.PrintMore Go.Proofs.YtkpfnhkfecpefaaW.PrintLast Go.Proofs.Ytkpfnhkfecpefaa.Mp Go.Maps Go.Proofs.Ytkpfnhkfecpefaa.Win Go.Proofs.Ytkpfnhkfecpefaa.Lin
set_option linter.unusedVariables false
set_option linter.unusedSimpArgs false
attribute [local go_sem] max2_int min2_int max_two min_two max_three min_three
/-- a text's lines -/
def linesT (t : List Int) : List (List Int) := (linesUp t 0 []).map SLX.f1
def foldT (fd : Bool) (l : List Int) : List Int := if fd = true then l.map byteI else l
theorem foldT_len (fd : Bool) (l : List Int) : (foldT fd l).length = l.length := by unfold foldT; split <;> simp
def loadP (l : List Int) (fd : Bool) : PS := if 1024 < l.length then ⟨[], false⟩ else ofP (linesT (foldT fd l))
def loadE (l : List Int) : Int := if 1024 < l.length then 12 else 0
theorem setC_zero (w : World) : SetC w (.agg #[.slice none 0 0, .map none, .bool false]) ⟨[], false⟩ := ⟨⟨none, 0, none, rfl, Nat.le_refl _, ⟨rfl, Nat.zero_le _, fun h => absurd h (by decide)⟩, ⟨fun bm h => (by cases h), fun _ => rfl⟩⟩⟩
theorem linesT_len (t : List Int) : (linesT t).length ≤ t.length := by
  unfold linesT
  rw [List.length_map]
  have := linesUp_len t 0 []
  simpa using this
theorem up_text : ∀ (l : List Int) (off : Int) (cur : List Int), ∀ y ∈ linesUp l off cur, y.f1.length ≤ cur.length + l.length
  | [], off, cur, y, hy => by
    unfold linesUp at hy
    split at hy
    · cases hy
    · rw [List.mem_singleton] at hy
      subst hy
      exact Nat.le_add_right _ _
  | c :: l, off, cur, y, hy => by
    rw [linesUp_cons] at hy
    rw [List.length_cons]
    by_cases hc : c = 10
    · rw [if_pos hc, List.mem_cons] at hy
      rcases hy with rfl | hy
      · exact Nat.le_add_right _ _
      · have := up_text l _ _ y hy
        simp only [List.length_nil] at this
        omega
    · rw [if_neg hc] at hy
      have := up_text l _ _ y hy
      rw [List.length_append] at this
      simp only [List.length_cons, List.length_nil] at this
      omega
theorem linesT_text (t : List Int) : ∀ p ∈ linesT t, p.length ≤ t.length := by
  intro p hp
  unfold linesT at hp
  obtain ⟨y, hy, rfl⟩ := List.mem_map.mp hp
  have := up_text t 0 [] y hy
  simpa using this
/-- a result's box, filled -/
theorem fill3 {w wr : World} {g : Nat} {x0 x1 x2 a b c : Value} (h : wr.heap[g]? = some (.cells #[x0, x1, x2] 27 (0, 0))) (hb : Below w.heap.size w wr) (hg : w.heap.size ≤ g) :
    (((wr.setCell ⟨g, 0, none⟩ a).setCell ⟨g, 1, none⟩ b).setCell ⟨g, 2, none⟩ c).heap[g]? = some (.cells #[a, b, c] 27 (0, 0)) ∧ Below w.heap.size w (((wr.setCell ⟨g, 0, none⟩ a).setCell ⟨g, 1, none⟩ b).setCell ⟨g, 2, none⟩ c) :=
  ⟨blk_put (blk_put (blk_put h 0 a rfl) 1 b rfl) 2 c rfl, below_set (below_set (below_set hb hg) hg) hg⟩
set_option maxHeartbeats 8000000 in
set_option maxRecDepth 100000 in
theorem load_big (w : World) (A : Option Addr) (c : Nat) (l : List Int) (fd : Bool) (hl : 1024 < l.length) :
    Calls Try.prog 10 #[.slice A l.length c, .bool fd] w fun e w' => e = .returned (.tuple #[.agg #[.slice none 0 0, .map none, .bool false], .int .i64 12]) ∧ Below w.heap.size w w' := by
  have d1 : decide ((l.length : Int) > 1024) = true := decide_eq_true (by omega)
  have d2 : decide ((1024 : Int) < (l.length : Int)) = true := decide_eq_true (by omega)
  have d3 : decide (1024 < l.length) = true := decide_eq_true hl
  have hzs := zeroSet
  have hu := Try.underlying27
  have HI3 := Aside0.mk (show (Try.prog.info? 27).map (·.size) = some 3 by kernel_rfl)
  clear hl
  go_enter Try.func10, Try.ntmps10
  go_wp2
  refine bodyPost_ret (results_ct rfl _ _ w.heap.size 27 #[.slice none 0 0, .map none, .bool false] (0, 0) _ rfl ?_ Try.underlying27 rfl HI3.out) rfl ?_
  · exact blk_new _ _
  · exact ⟨rfl, below_alloc (Below.refl _ _) _⟩
theorem kB_else : ∀ q, q ∈ 22 :: kB.E → q ≠ 24 := by decide
theorem kept_turn {A : World} {l : Nat} {o o' : Obj} (hl : A.heap[l]? = some o) : Kept A (A.putObj l o') (fun k => k = l) :=
  ⟨by simp [World.putObj], fun i hi hne => World.putObj_heap_other hne⟩
section
attribute [local go_sem] Oper.semAt_some
set_option maxHeartbeats 16000000 in
set_option maxRecDepth 100000 in
theorem load_small (w : World) (A : Option Addr) (c : Nat) (l : List Int) (fd : Bool) (hr : Kd.C (Kd.int .u8) w A l.length l) (hc : l.length ≤ c) (hl : l.length ≤ 1024) :
    Calls Try.prog 10 #[.slice A l.length c, .bool fd] w fun e w' => ∃ v, e = .returned (.tuple #[v, .int .i64 0]) ∧ SetO w' w.heap.size v (ofP (linesT (foldT fd l))) ∧ Below w.heap.size w w' := by
  have d1 : decide ((l.length : Int) > 1024) = false := decide_eq_false (by omega)
  have d2 : decide ((1024 : Int) < (l.length : Int)) = false := decide_eq_false (by omega)
  have d3 : decide (1024 < l.length) = false := decide_eq_false (by omega)
  have hzs := zeroSet
  have hu := Try.underlying27
  have HR := Aside0.mk hr
  have HC := Aside0.mk hc
  have HL := Aside0.mk hl
  have HI3 := Aside0.mk (show (Try.prog.info? 27).map (·.size) = some 3 by kernel_rfl)
  clear hr hc hl
  refine (callsIn_wide (n := 3)).1 ?_
  refine callsIn_of_wp_marks Try.func10 rfl trivial ?_ rfl
  simp only [Try.ntmps10, List.size_toArray, List.length_cons, List.length_nil, Nat.reduceAdd, Nat.reduceSub, Array.replicate_succ, Array.replicate_zero, List.push_toArray, List.append_toArray, List.nil_append, List.cons_append]
  have fnA : Fence.wide.fn 24 := trivial
  have fnB : Fence.wide.fn 23 := trivial
  have fnO : Fence.wide.fn 16 := trivial
  cases fd with
  | false =>
    have HFT := Aside0.mk (show foldT false l = l from rfl)
    gi_wp2_with (gi_at_call 24; refine (all_call _ _ _ _ _).mono ?_; rintro e w' ⟨rfl, rfl⟩)
    have H1 := blk_new w (.cells #[.slice none 0 0, .map none, .bool false] 27)
    have HB1 := below_alloc (Below.refl w.heap.size w) (.cells #[.slice none 0 0, .map none, .bool false] 27)
    have HT1 := Aside0.mk (show Kd.C (Kd.int .u8) (w.alloc (.cells #[.slice none 0 0, .map none, .bool false] 27)) A l.length l ∧ l.length ≤ c from ⟨Kd.C_below HR.out HB1, HC.out⟩)
    have HG1 : w.heap.size < (w.alloc (.cells #[.slice none 0 0, .map none, .bool false] 27)).heap.size := blk_lt H1
    have HSZ : (w.alloc (.cells #[.slice none 0 0, .map none, .bool false] 27)).heap.size = w.heap.size + 1 := World.size_alloc _ _
    rw [← HSZ]
    generalize w.alloc (.cells #[.slice none 0 0, .map none, .bool false] 27) = w1 at H1 HB1 HT1 HG1 HSZ ⊢
    clear HSZ
    have hO := blk_alloc (blk_new w1 (.cells #[.slice none 0 0] 24)) (.cells #[.slice A l.length c] 22)
    have hT := blk_new (w1.alloc (.cells #[.slice none 0 0] 24)) (.cells #[.slice A l.length c] 22)
    rw [World.size_alloc] at hT
    have hBB := Seq.below_alloc2 w1 (.cells #[.slice none 0 0] 24) (.cells #[.slice A l.length c] 22)
    have hZ := blk_below H1 hBB
    have hB0 := Below.trans HB1 (hBB.mono HB1.size)
    have HT2 := Aside0.mk (And.intro (Kd.C_below HT1.out.1 hBB) HT1.out.2)
    have hsz : ((w1.alloc (.cells #[.slice none 0 0] 24)).alloc (.cells #[.slice A l.length c] 22)).heap.size = w1.heap.size + 2 := by simp
    generalize (w1.alloc (.cells #[.slice none 0 0] 24)).alloc (.cells #[.slice A l.length c] 22) = W0 at hO hT hB0 hsz hZ HT2 hBB ⊢
    have HB2 : Below w1.heap.size w1 W0 := hBB
    clear hBB hZ hB0 HT2
    have HLM : l.length = l.length := by first | rfl | exact List.length_map _
    refine Seq.wpIn_told rfl (by decide : 1 ≤ 3) (gf := 31) (lb := #[.pointer (some ⟨w1.heap.size + 1, 0, none⟩)]) rfl trivial (enters_of Try.func31 (by kernel_rfl) rfl)
      (all_told 2 (by decide) (w1.heap.size + 1) w1.heap.size A c l (by have := HL.out; rw [HLM]; omega) HT1.out.2 _) (fun _ => rfl)
      (fun pre W => (∃ v, W.heap[w1.heap.size]? = some (.cells #[v] 24 (0, 0)) ∧ Kd.R kB 22 W w1.heap.size (fun k => k ≠ w1.heap.size + 1) v (pre.map fun y : LV => y.x.f1)) ∧ W.heap[w1.heap.size + 1]? = some (.cells #[.slice A l.length c] 22 (0, 0)) ∧ Below w1.heap.size w1 W)
      (fun B pre W => (∃ v, W.heap[w1.heap.size]? = some (.cells #[v] 24 (0, 0)) ∧ Kd.R kB 22 W w1.heap.size (fun k => k < B ∧ k ≠ w1.heap.size + 1) v (pre.map fun y : LV => y.x.f1)) ∧ W.heap[w1.heap.size + 1]? = some (.cells #[.slice A l.length c] 22 (0, 0)) ∧ Below w1.heap.size w1 W ∧ w1.heap.size + 1 < B)
      (fun _ _ _ => False)
      (fun y a' W => ∃ Bx, W.heap[Bx]? = some (.cells #[.int .i64 y.x.f0, y.v, .bool y.x.f2] 55 (0, 0)) ∧ a' = { tmps := #[.slice A l.length c, .bool false, undef, undef, .pointer (some ⟨w.heap.size, 0, none⟩), .int .i64 0, .pointer (some ⟨w1.heap.size, 0, none⟩), .pointer (some ⟨Bx, 0, none⟩), .slice A l.length c, .int .i64 (l.length : Int), .bool false, undef, .bool false, undef, undef, .slice A l.length c, .func (.func 31) #[] #[.pointer (some ⟨w1.heap.size + 1, 0, none⟩)], .agg #[.int .i64 y.x.f0, y.v, .bool y.x.f2], undef, undef, undef, undef, undef, undef, undef], defers := [] })
      (fun s A B h hb => ⟨⟨h.1.choose, blk_below h.1.choose_spec.1 hb, Kd.R_below h.1.choose_spec.2 hb⟩, blk_below h.2.1 hb, h.2.2.trans (hb.mono h.2.2.size)⟩)
      (fun s A l o o' h hl ha ho => ⟨⟨h.1.choose, turns_blk h.1.choose_spec.1 ha ho, turns_R h.1.choose_spec.2 ha ho⟩, turns_blk h.2.1 ha ho, below_turn h.2.2 (by omega) ha⟩)
      (fun s A h => ⟨⟨h.1.choose, h.1.choose_spec.1, Kd.R_mono (Kd.R_bound h.1.choose_spec.2) (fun k hk => ⟨hk.2.2.1, hk.1⟩)⟩, h.2.1, h.2.2, blk_lt h.2.1⟩)
      (fun _ s A B h hb => ⟨⟨h.1.choose, blk_below h.1.choose_spec.1 hb, Kd.R_below h.1.choose_spec.2 hb⟩, blk_below h.2.1 hb, h.2.2.1.trans (hb.mono h.2.2.1.size), h.2.2.2⟩)
      (fun _ s A l o o' h hl ha ho => ⟨⟨h.1.choose, turns_blk h.1.choose_spec.1 ha ho, turns_R h.1.choose_spec.2 ha ho⟩, turns_blk h.2.1 ha ho, below_turn h.2.2.1 (by omega) ha, h.2.2.2⟩)
      (fun c s A l o o' h _ _ _ => h) (fun _ y A B h hb => Kd.R_below h hb) (fun _ y A l o o' h _ ha ho => turns_R h ha ho)
      (fun a' y A l o o' h _ ha ho => ⟨h.choose, turns_blk h.choose_spec.1 ha ho, h.choose_spec.2⟩)
      (fun s A h => ⟨(blk_cell h.2.1 0).trans (by first | rfl | (rw [HLM]; rfl)), Kd.C_below HT1.out.1 h.2.2, h.2.2.size⟩)
      ⟨⟨_, hO, Kd.R_nil _ _ _ _ _⟩, hT, HB2⟩ ?assign ?body ?done ?stop
    case assign =>
      rintro l1 B pre ⟨⟨f0, f1, f2⟩, v⟩ W K hI hG hK
      have hG1 : (Kd.int .u8).R 5 W w1.heap.size (fun k => B ≤ k) v f1 := hG
      clear hG
      obtain ⟨A9, c9, rfl⟩ := Kd.R_slice hG1
      dsimp only [LV.enc]
      gi_wp2
      exact hK _ _ (below_alloc (Below.refl _ W) _) ⟨_, blk_new W _, rfl⟩
    case body =>
      rintro l1 B pre ⟨⟨f0, f1, f2⟩, v⟩ a' W ⟨⟨u, hU, hRr⟩, hT1, hB, hgB⟩ hG ⟨Bx, hX, rfl⟩ hlt
      have hG1 : (Kd.int .u8).R 5 W w1.heap.size (fun k => B ≤ k) v f1 := hG
      clear hG
      obtain ⟨A9, c9, rfl⟩ := Kd.R_slice hG1
      have HRr := Aside0.mk hRr
      have HG := Aside0.mk hG1
      clear hRr hG1
      have he1 : ((pre.map fun y : LV => y.x.f1) ++ [f1]).length = pre.length + 1 := (by simp)
      have cu : W.cell? ⟨w1.heap.size, 0, none⟩ = some u := (blk_cell hU 0).trans rfl
      have c0' : W.cell? ⟨Bx, 0, none⟩ = some (.int .i64 f0) := (blk_cell hX 0).trans rfl
      have c1' : W.cell? ⟨Bx, 1, none⟩ = some (.slice A9 f1.length c9) := (blk_cell hX 1).trans rfl
      have c2' : W.cell? ⟨Bx, 2, none⟩ = some (.bool f2) := (blk_cell hX 2).trans rfl
      gi_wp2_with (gi_at_builtin; refine Seq.append_row kB w1.heap.size rfl (.tmp 18) (.tmp 21) 24 22 (.slice none 0 0) 24 rfl Try.underlying24 infoR rfl (by decide) (by decide) u (pre.map fun y : LV => y.x.f1) f1 [.slice A9 f1.length c9] (fun k => k ≠ w1.heap.size + 1) (fun k => B ≤ k) rfl rfl ⟨_, rfl, HG.out⟩ (fun k hk => ⟨by omega, fun e => absurd (HRr.out.1 k e.symm).1 (by omega)⟩) (fun k hk => by have := blk_lt hT1; omega) (Kd.R_mono HRr.out (fun _ hk => hk.2)) hB.size (by rw [List.length_map]; have := HL.out; rw [HLM] at hlt; omega) ?_; intro v1 w2 hr1 hg1 hat1; have hU1 := blk_grown hU hg1 (Kd.R_ne HRr.out hU (by decide)); have cu1 : w2.cell? ⟨w1.heap.size, 0, none⟩ = some u := (blk_cell hU1 0).trans rfl; have fu1 := blk_frozen hU1 0; obtain ⟨A8, c8, hv1⟩ := Kd.R_slice hr1; rw [he1] at hv1; subst hv1; have HR1 := Aside0.mk hr1; clear hr1)
      exact ⟨(KeepsOthers.of_grownBy hg1 (fun j o ej hj => by obtain ⟨cells, hc⟩ := Kd.R_typed HRr.out j ej; rw [hc] at hj; cases hj; rfl)).trans (KeepsOthers.setCell _ _ _),
        ⟨_, blk_put hU1 0 _ rfl, by rw [List.map_append]; exact Kd.R_set HR1.out hU1 kB_else 0 _⟩,
        blk_far (blk_grown hT1 hg1 (fun e => (HRr.out.1 _ e.symm).2 rfl)) (by simp) _, (hB.grown hg1 hB.size (fun k e => Kd.R_base HRr.out k e)).setCell (p := ⟨w1.heap.size, 0, none⟩) (Nat.le_refl _) _⟩
    case done =>
      rintro D xs W hD hS ⟨⟨v, hv, hRr⟩, hT1, hB⟩ hK
      have cv : W.cell? ⟨w1.heap.size, 0, none⟩ = some v := (blk_cell hv 0).trans rfl
      have hxs : (xs.map fun y : LV => y.x.f1) = linesT l := by
        unfold linesT
        rw [← hS, List.map_map]
        rfl
      rw [hxs] at hRr
      obtain ⟨A7, c7, hv7⟩ := Kd.R_slice hRr
      subst hv7
      have HRW := Aside0.mk (Kd.R_reads' hRr)
      have HLT := Aside0.mk (show (linesT l).length ≤ 1024 by have := linesT_len l; have := HL.out; have := HLM; omega)
      have HTX := Aside0.mk (fun p hp => Nat.le_trans (linesT_text l p hp) (show l.length ≤ 1024 by have := HL.out; have := HLM; omega))
      have H1W := Aside0.mk (blk_below H1 hB)
      have HBW := Aside0.mk (Below.trans HB1 (hB.mono HB1.size))
      have HK := Aside0.mk hK
      have HDL := Aside0.mk (show w1.heap.size < D by omega)
      clear hRr hxs hS hT1 hB hD
      gi_wp2_with (gi_at_call 16; refine (callsIn_wide.2 (of_calls W A7 c7 (linesT l) HRW.out.2.2 (by have := HLT.out; omega) (fun p hp => Nat.le_trans (HTX.out p hp) (by decide)))).mono ?_; rintro e w3 ⟨v3, rfl, hs3, hb3⟩; obtain ⟨A6, c6, bm6, n6, f6, hv6, hR6, hM6, hf6, hb6⟩ := hs3.lies; subst hv6; have H3 := blk_below H1W.out hb3; have HK3 := Aside0.mk (blk_below HK.out hb3); have HS3 := Aside0.mk hs3; have HB3 := Aside0.mk (Below.trans HBW.out (hb3.mono HBW.out.size)); have HW3 := Aside0.mk hb3.size; clear hs3 hb3 hR6 hM6 hf6 hb6; have z0 := (blk_cell H3 0).trans (show _ = some (Value.slice none 0 0) from rfl); have z1 := (blk_cell H3 1).trans (show _ = some (Value.map none) from rfl); have z2 := (blk_cell H3 2).trans (show _ = some (Value.bool false) from rfl); have y0 := blk_frozen H3 0; have y1 := blk_frozen H3 1; have y2 := blk_frozen H3 2)
      obtain ⟨F1, F2⟩ := fill3 (a := .slice A6 (ofP (linesT l)).l.length c6) (b := .map (some bm6)) (c := .bool (ofP (linesT l)).e) H3 HB3.out (Nat.le_refl _)
      have HDW := blk_lt HK.out
      have hne : D ≠ w.heap.size := by have := HDL.out; omega
      have HKF := (Below.heap_setCell _ ⟨w.heap.size, 2, none⟩ (.bool (ofP (linesT l)).e) D hne).trans ((Below.heap_setCell _ ⟨w.heap.size, 1, none⟩ (.map (some bm6)) D hne).trans ((Below.heap_setCell w3 ⟨w.heap.size, 0, none⟩ (.slice A6 (ofP (linesT l)).l.length c6) D hne).trans HK3.out))
      have hkk : Kept w3 (((w3.setCell ⟨w.heap.size, 0, none⟩ (.slice A6 (ofP (linesT l)).l.length c6)).setCell ⟨w.heap.size, 1, none⟩ (.map (some bm6))).setCell ⟨w.heap.size, 2, none⟩ (.bool (ofP (linesT l)).e)) (fun k => k = w.heap.size) := Kept.setCell (S := fun k => k = w.heap.size) (p := ⟨w.heap.size, 2, none⟩) (Kept.setCell (S := fun k => k = w.heap.size) (p := ⟨w.heap.size, 1, none⟩) (Kept.setCell (S := fun k => k = w.heap.size) (p := ⟨w.heap.size, 0, none⟩) (Kept.refl w3 _) (Or.inl rfl) _) (Or.inl rfl) _) (Or.inl rfl) _
      have HSF := fun o' : Obj => ((HS3.out.kept hkk (fun k hk _ e => by have := HDL.out; omega)).kept (kept_turn (o' := o') HKF) (fun k hk _ e => by omega)).lower (base' := w.heap.size) (by have := HDL.out; omega)
      refine ⟨by simp, .inl ⟨_, _, rfl, run_takeDeferred HKF, ?_⟩⟩
      exact ⟨_, results_ct rfl _ _ w.heap.size 27 #[.slice A6 (ofP (linesT l)).l.length c6, .map (some bm6), .bool (ofP (linesT l)).e] (0, 0) _ rfl (turns_blk F1 HKF rfl) Try.underlying27 rfl HI3.out, ⟨_, rfl, HSF _, below_turn F2 (by have := HDL.out; omega) HKF⟩⟩
    case stop =>
      rintro D c pre W _ _ h _
      exact h.elim
  | true =>
    have HFT := Aside0.mk (show foldT true l = l.map byteI from rfl)
    gi_wp2_with first
      | (gi_at_call 23; refine (callsIn_wide.2 (bytes_calls A c l _ (Kd.C_below HR.out (below_alloc (Below.refl _ _) (.cells #[.slice none 0 0, .map none, .bool false] 27))) HC.out (by have := HL.out; omega))).mono ?_; rintro e w1 ⟨v1, rfl, hr1, hb1⟩; obtain ⟨A1, c1, hv1⟩ := Kd.R_slice hr1; rw [List.length_map] at hv1; subst hv1)
      | (gi_at_call 24; refine (all_call _ _ _ _ _).mono ?_; rintro e w' ⟨rfl, rfl⟩)
    have H1 := blk_below (blk_new w (.cells #[.slice none 0 0, .map none, .bool false] 27)) hb1
    have HB1 := Below.trans (below_alloc (Below.refl w.heap.size w) (.cells #[.slice none 0 0, .map none, .bool false] 27)) (hb1.mono (by simp))
    have HT1 := Aside0.mk (show Kd.C (Kd.int .u8) w1 A1 (l.map byteI).length (l.map byteI) ∧ (l.map byteI).length ≤ c1 from by
      have := Kd.R_reads' hr1
      exact ⟨this.2.2, by rw [List.length_map]; exact this.2.1⟩)
    have HG1 : w.heap.size < w1.heap.size := blk_lt H1
    clear hr1 hb1
    have hO := blk_alloc (blk_new w1 (.cells #[.slice none 0 0] 24)) (.cells #[.slice A1 l.length c1] 22)
    have hT := blk_new (w1.alloc (.cells #[.slice none 0 0] 24)) (.cells #[.slice A1 l.length c1] 22)
    rw [World.size_alloc] at hT
    have hBB := Seq.below_alloc2 w1 (.cells #[.slice none 0 0] 24) (.cells #[.slice A1 l.length c1] 22)
    have hZ := blk_below H1 hBB
    have hB0 := Below.trans HB1 (hBB.mono HB1.size)
    have HT2 := Aside0.mk (And.intro (Kd.C_below HT1.out.1 hBB) HT1.out.2)
    have hsz : ((w1.alloc (.cells #[.slice none 0 0] 24)).alloc (.cells #[.slice A1 l.length c1] 22)).heap.size = w1.heap.size + 2 := by simp
    generalize (w1.alloc (.cells #[.slice none 0 0] 24)).alloc (.cells #[.slice A1 l.length c1] 22) = W0 at hO hT hB0 hsz hZ HT2 hBB ⊢
    have HB2 : Below w1.heap.size w1 W0 := hBB
    clear hBB hZ hB0 HT2
    have HLM : (l.map byteI).length = l.length := by first | rfl | exact List.length_map _
    refine Seq.wpIn_told rfl (by decide : 1 ≤ 3) (gf := 31) (lb := #[.pointer (some ⟨w1.heap.size + 1, 0, none⟩)]) rfl trivial (enters_of Try.func31 (by kernel_rfl) rfl)
      (all_told 2 (by decide) (w1.heap.size + 1) w1.heap.size A1 c1 (l.map byteI) (by have := HL.out; rw [HLM]; omega) HT1.out.2 _) (fun _ => rfl)
      (fun pre W => (∃ v, W.heap[w1.heap.size]? = some (.cells #[v] 24 (0, 0)) ∧ Kd.R kB 22 W w1.heap.size (fun k => k ≠ w1.heap.size + 1) v (pre.map fun y : LV => y.x.f1)) ∧ W.heap[w1.heap.size + 1]? = some (.cells #[.slice A1 l.length c1] 22 (0, 0)) ∧ Below w1.heap.size w1 W)
      (fun B pre W => (∃ v, W.heap[w1.heap.size]? = some (.cells #[v] 24 (0, 0)) ∧ Kd.R kB 22 W w1.heap.size (fun k => k < B ∧ k ≠ w1.heap.size + 1) v (pre.map fun y : LV => y.x.f1)) ∧ W.heap[w1.heap.size + 1]? = some (.cells #[.slice A1 l.length c1] 22 (0, 0)) ∧ Below w1.heap.size w1 W ∧ w1.heap.size + 1 < B)
      (fun _ _ _ => False)
      (fun y a' W => ∃ Bx, W.heap[Bx]? = some (.cells #[.int .i64 y.x.f0, y.v, .bool y.x.f2] 55 (0, 0)) ∧ a' = { tmps := #[.slice A1 l.length c1, .bool true, undef, undef, .pointer (some ⟨w.heap.size, 0, none⟩), .int .i64 0, .pointer (some ⟨w1.heap.size, 0, none⟩), .pointer (some ⟨Bx, 0, none⟩), .slice A l.length c, .int .i64 (l.length : Int), .bool false, undef, .bool true, .slice A l.length c, .slice A1 l.length c1, .slice A1 l.length c1, .func (.func 31) #[] #[.pointer (some ⟨w1.heap.size + 1, 0, none⟩)], .agg #[.int .i64 y.x.f0, y.v, .bool y.x.f2], undef, undef, undef, undef, undef, undef, undef], defers := [] })
      (fun s A B h hb => ⟨⟨h.1.choose, blk_below h.1.choose_spec.1 hb, Kd.R_below h.1.choose_spec.2 hb⟩, blk_below h.2.1 hb, h.2.2.trans (hb.mono h.2.2.size)⟩)
      (fun s A l o o' h hl ha ho => ⟨⟨h.1.choose, turns_blk h.1.choose_spec.1 ha ho, turns_R h.1.choose_spec.2 ha ho⟩, turns_blk h.2.1 ha ho, below_turn h.2.2 (by omega) ha⟩)
      (fun s A h => ⟨⟨h.1.choose, h.1.choose_spec.1, Kd.R_mono (Kd.R_bound h.1.choose_spec.2) (fun k hk => ⟨hk.2.2.1, hk.1⟩)⟩, h.2.1, h.2.2, blk_lt h.2.1⟩)
      (fun _ s A B h hb => ⟨⟨h.1.choose, blk_below h.1.choose_spec.1 hb, Kd.R_below h.1.choose_spec.2 hb⟩, blk_below h.2.1 hb, h.2.2.1.trans (hb.mono h.2.2.1.size), h.2.2.2⟩)
      (fun _ s A l o o' h hl ha ho => ⟨⟨h.1.choose, turns_blk h.1.choose_spec.1 ha ho, turns_R h.1.choose_spec.2 ha ho⟩, turns_blk h.2.1 ha ho, below_turn h.2.2.1 (by omega) ha, h.2.2.2⟩)
      (fun c s A l o o' h _ _ _ => h) (fun _ y A B h hb => Kd.R_below h hb) (fun _ y A l o o' h _ ha ho => turns_R h ha ho)
      (fun a' y A l o o' h _ ha ho => ⟨h.choose, turns_blk h.choose_spec.1 ha ho, h.choose_spec.2⟩)
      (fun s A h => ⟨(blk_cell h.2.1 0).trans (by first | rfl | (rw [HLM]; rfl)), Kd.C_below HT1.out.1 h.2.2, h.2.2.size⟩)
      ⟨⟨_, hO, Kd.R_nil _ _ _ _ _⟩, hT, HB2⟩ ?assign ?body ?done ?stop
    case assign =>
      rintro l1 B pre ⟨⟨f0, f1, f2⟩, v⟩ W K hI hG hK
      have hG1 : (Kd.int .u8).R 5 W w1.heap.size (fun k => B ≤ k) v f1 := hG
      clear hG
      obtain ⟨A9, c9, rfl⟩ := Kd.R_slice hG1
      dsimp only [LV.enc]
      gi_wp2
      exact hK _ _ (below_alloc (Below.refl _ W) _) ⟨_, blk_new W _, rfl⟩
    case body =>
      rintro l1 B pre ⟨⟨f0, f1, f2⟩, v⟩ a' W ⟨⟨u, hU, hRr⟩, hT1, hB, hgB⟩ hG ⟨Bx, hX, rfl⟩ hlt
      have hG1 : (Kd.int .u8).R 5 W w1.heap.size (fun k => B ≤ k) v f1 := hG
      clear hG
      obtain ⟨A9, c9, rfl⟩ := Kd.R_slice hG1
      have HRr := Aside0.mk hRr
      have HG := Aside0.mk hG1
      clear hRr hG1
      have he1 : ((pre.map fun y : LV => y.x.f1) ++ [f1]).length = pre.length + 1 := (by simp)
      have cu : W.cell? ⟨w1.heap.size, 0, none⟩ = some u := (blk_cell hU 0).trans rfl
      have c0' : W.cell? ⟨Bx, 0, none⟩ = some (.int .i64 f0) := (blk_cell hX 0).trans rfl
      have c1' : W.cell? ⟨Bx, 1, none⟩ = some (.slice A9 f1.length c9) := (blk_cell hX 1).trans rfl
      have c2' : W.cell? ⟨Bx, 2, none⟩ = some (.bool f2) := (blk_cell hX 2).trans rfl
      gi_wp2_with (gi_at_builtin; refine Seq.append_row kB w1.heap.size rfl (.tmp 18) (.tmp 21) 24 22 (.slice none 0 0) 24 rfl Try.underlying24 infoR rfl (by decide) (by decide) u (pre.map fun y : LV => y.x.f1) f1 [.slice A9 f1.length c9] (fun k => k ≠ w1.heap.size + 1) (fun k => B ≤ k) rfl rfl ⟨_, rfl, HG.out⟩ (fun k hk => ⟨by omega, fun e => absurd (HRr.out.1 k e.symm).1 (by omega)⟩) (fun k hk => by have := blk_lt hT1; omega) (Kd.R_mono HRr.out (fun _ hk => hk.2)) hB.size (by rw [List.length_map]; have := HL.out; rw [HLM] at hlt; omega) ?_; intro v1 w2 hr1 hg1 hat1; have hU1 := blk_grown hU hg1 (Kd.R_ne HRr.out hU (by decide)); have cu1 : w2.cell? ⟨w1.heap.size, 0, none⟩ = some u := (blk_cell hU1 0).trans rfl; have fu1 := blk_frozen hU1 0; obtain ⟨A8, c8, hv1⟩ := Kd.R_slice hr1; rw [he1] at hv1; subst hv1; have HR1 := Aside0.mk hr1; clear hr1)
      exact ⟨(KeepsOthers.of_grownBy hg1 (fun j o ej hj => by obtain ⟨cells, hc⟩ := Kd.R_typed HRr.out j ej; rw [hc] at hj; cases hj; rfl)).trans (KeepsOthers.setCell _ _ _),
        ⟨_, blk_put hU1 0 _ rfl, by rw [List.map_append]; exact Kd.R_set HR1.out hU1 kB_else 0 _⟩,
        blk_far (blk_grown hT1 hg1 (fun e => (HRr.out.1 _ e.symm).2 rfl)) (by simp) _, (hB.grown hg1 hB.size (fun k e => Kd.R_base HRr.out k e)).setCell (p := ⟨w1.heap.size, 0, none⟩) (Nat.le_refl _) _⟩
    case done =>
      rintro D xs W hD hS ⟨⟨v, hv, hRr⟩, hT1, hB⟩ hK
      have cv : W.cell? ⟨w1.heap.size, 0, none⟩ = some v := (blk_cell hv 0).trans rfl
      have hxs : (xs.map fun y : LV => y.x.f1) = linesT (l.map byteI) := by
        unfold linesT
        rw [← hS, List.map_map]
        rfl
      rw [hxs] at hRr
      obtain ⟨A7, c7, hv7⟩ := Kd.R_slice hRr
      subst hv7
      have HRW := Aside0.mk (Kd.R_reads' hRr)
      have HLT := Aside0.mk (show (linesT (l.map byteI)).length ≤ 1024 by have := linesT_len (l.map byteI); have := HL.out; have := HLM; omega)
      have HTX := Aside0.mk (fun p hp => Nat.le_trans (linesT_text (l.map byteI) p hp) (show (l.map byteI).length ≤ 1024 by have := HL.out; have := HLM; omega))
      have H1W := Aside0.mk (blk_below H1 hB)
      have HBW := Aside0.mk (Below.trans HB1 (hB.mono HB1.size))
      have HK := Aside0.mk hK
      have HDL := Aside0.mk (show w1.heap.size < D by omega)
      clear hRr hxs hS hT1 hB hD
      gi_wp2_with (gi_at_call 16; refine (callsIn_wide.2 (of_calls W A7 c7 (linesT (l.map byteI)) HRW.out.2.2 (by have := HLT.out; omega) (fun p hp => Nat.le_trans (HTX.out p hp) (by decide)))).mono ?_; rintro e w3 ⟨v3, rfl, hs3, hb3⟩; obtain ⟨A6, c6, bm6, n6, f6, hv6, hR6, hM6, hf6, hb6⟩ := hs3.lies; subst hv6; have H3 := blk_below H1W.out hb3; have HK3 := Aside0.mk (blk_below HK.out hb3); have HS3 := Aside0.mk hs3; have HB3 := Aside0.mk (Below.trans HBW.out (hb3.mono HBW.out.size)); have HW3 := Aside0.mk hb3.size; clear hs3 hb3 hR6 hM6 hf6 hb6; have z0 := (blk_cell H3 0).trans (show _ = some (Value.slice none 0 0) from rfl); have z1 := (blk_cell H3 1).trans (show _ = some (Value.map none) from rfl); have z2 := (blk_cell H3 2).trans (show _ = some (Value.bool false) from rfl); have y0 := blk_frozen H3 0; have y1 := blk_frozen H3 1; have y2 := blk_frozen H3 2)
      obtain ⟨F1, F2⟩ := fill3 (a := .slice A6 (ofP (linesT (l.map byteI))).l.length c6) (b := .map (some bm6)) (c := .bool (ofP (linesT (l.map byteI))).e) H3 HB3.out (Nat.le_refl _)
      have HDW := blk_lt HK.out
      have hne : D ≠ w.heap.size := by have := HDL.out; omega
      have HKF := (Below.heap_setCell _ ⟨w.heap.size, 2, none⟩ (.bool (ofP (linesT (l.map byteI))).e) D hne).trans ((Below.heap_setCell _ ⟨w.heap.size, 1, none⟩ (.map (some bm6)) D hne).trans ((Below.heap_setCell w3 ⟨w.heap.size, 0, none⟩ (.slice A6 (ofP (linesT (l.map byteI))).l.length c6) D hne).trans HK3.out))
      have hkk : Kept w3 (((w3.setCell ⟨w.heap.size, 0, none⟩ (.slice A6 (ofP (linesT (l.map byteI))).l.length c6)).setCell ⟨w.heap.size, 1, none⟩ (.map (some bm6))).setCell ⟨w.heap.size, 2, none⟩ (.bool (ofP (linesT (l.map byteI))).e)) (fun k => k = w.heap.size) := Kept.setCell (S := fun k => k = w.heap.size) (p := ⟨w.heap.size, 2, none⟩) (Kept.setCell (S := fun k => k = w.heap.size) (p := ⟨w.heap.size, 1, none⟩) (Kept.setCell (S := fun k => k = w.heap.size) (p := ⟨w.heap.size, 0, none⟩) (Kept.refl w3 _) (Or.inl rfl) _) (Or.inl rfl) _) (Or.inl rfl) _
      have HSF := fun o' : Obj => ((HS3.out.kept hkk (fun k hk _ e => by have := HDL.out; omega)).kept (kept_turn (o' := o') HKF) (fun k hk _ e => by omega)).lower (base' := w.heap.size) (by have := HDL.out; omega)
      refine ⟨by simp, .inl ⟨_, _, rfl, run_takeDeferred HKF, ?_⟩⟩
      exact ⟨_, results_ct rfl _ _ w.heap.size 27 #[.slice A6 (ofP (linesT (l.map byteI))).l.length c6, .map (some bm6), .bool (ofP (linesT (l.map byteI))).e] (0, 0) _ rfl (turns_blk F1 HKF rfl) Try.underlying27 rfl HI3.out, ⟨_, rfl, HSF _, below_turn F2 (by have := HDL.out; omega) HKF⟩⟩
    case stop =>
      rintro D c pre W _ _ h _
      exact h.elim
end
end Go.Proofs.Ytkpfnhkfecpefaa.Pat
