/- A line is told: it goes behind those that were told. -/
import Derived.Test.YtgiaabgmnjaefaaStrC
import Derived.Test.YtgiaabgmnjaefaaWinT
namespace Go.Proofs.Ytgiaabgmnjaefaa.Str
open Go Go.RowKit Go.Proofs Go.Proofs.Ytgiaabgmnjaefaa.Met Go.Proofs.Ytgiaabgmnjaefaa.Win Go.Proofs.YtgiaabgmnjaefaaW.PrintWords Go.Proofs.YtgiaabgmnjaefaaW.PrintMore
set_option linter.unusedVariables false
set_option linter.unusedSimpArgs false
attribute [local go_sem] max2_int min2_int max_two min_two max_three min_three
/-- a line: its number, where it begins, its bytes -/
abbrev Ln := Int × Int × List Int
def kL : Kd Ln := Kd.pair (Kd.int .i64) (Kd.pair (Kd.int .i64) (Kd.slice 5 (Kd.int .u8)))
theorem kL_mkM (w : World) (base : Nat) (ok : Nat → Prop) (x : Ln) {v2 : Value} (g2 : (Kd.int .u8).R 5 w base ok v2 x.2.2) : kL.M w base ok x [.int .i64 x.1, .int .i64 x.2.1, v2] := ⟨[.int .i64 x.1], [.int .i64 x.2.1, v2], rfl, rfl, ⟨[.int .i64 x.2.1], [v2], rfl, rfl, ⟨v2, rfl, g2⟩⟩⟩
theorem infoL : (Try.prog.info? 47).map (fun i => (i.zero, i.size, i.bytes)) = some (some (.agg #[.int .i64 0, .int .i64 0, .slice none 0 0]), 3, 40) := by kernel_rfl
/-- the line that some bytes end -/
def lnOf (s : SS) (rest : List Int) : Ln := ((s.num : Int), (s.off : Int), s.st.held ++ rest)
/-- what line leaves -/
structure Lined (w w' : World) (B gs gw : Nat) (M : Option Nat) (A A' : Option Addr) (s s' : SS) : Prop where
  str : StrAt w' B gs gw M A' s'
  kept : Kept w w' (Foot gs gw M A)
  bel : Below B w w'
  mov : ∀ ad, A' = some ad → A = some ad ∨ w.heap.size ≤ ad.block
theorem Lined.foot {w w' : World} {B gs gw : Nat} {M : Option Nat} {A A' : Option Addr} {s s' : SS} (h : Lined w w' B gs gw M A A' s s') (k : Nat) (hk : Foot gs gw M A' k) : Foot gs gw M A k ∨ w.heap.size ≤ k := by
  rcases hk with e | e | e | ⟨ad, e, e2⟩
  · exact Or.inl (Or.inl e)
  · exact Or.inl (Or.inr (Or.inl e))
  · exact Or.inl (Or.inr (Or.inr (Or.inl e)))
  · rcases h.mov ad e with h2 | h2
    · exact Or.inl (Or.inr (Or.inr (Or.inr ⟨ad, h2, e2⟩)))
    · exact Or.inr (by omega)
theorem Lined.trans {w w1 w2 : World} {B gs gw : Nat} {M : Option Nat} {A A1 A2 : Option Addr} {s s1 s2 : SS} (h : Lined w w1 B gs gw M A A1 s s1) (k : Lined w1 w2 B gs gw M A1 A2 s1 s2) : Lined w w2 B gs gw M A A2 s s2 :=
  ⟨k.str, h.kept.then_ k.kept (fun j hj => h.foot j hj), Below.trans h.bel k.bel, fun ad e => by
    rcases k.mov ad e with h1 | h1
    · exact h.mov ad h1
    · exact Or.inr (Nat.le_trans h.kept.1 h1)⟩
theorem line_calls {w : World} {B gs gw : Nat} {M : Option Nat} {A : Option Addr} {s : SS} (h : StrAt w B gs gw M A s) (hs : Sml s) (Ab : Option Addr) (cb n : Nat) (rest : List Int) (hsrc : Kd.C (Kd.int .u8) w Ab rest.length rest) (hn : n = rest.length) (hcb : rest.length ≤ cb) (hl : rest.length ≤ 1000000) (hB : B ≤ w.heap.size) (hfar : 0 < rest.length → ∀ ad, Ab = some ad → ¬ Foot gs gw M A ad.block) :
    Calls Try.prog 27 #[.pointer (some ⟨gs, 0, none⟩), .slice Ab n cb] w fun e w' => ∃ Av cv A', e = .returned (.agg #[.int .i64 (s.num : Int), .int .i64 (s.off : Int), .slice Av (s.st.held ++ rest).length cv]) ∧ Kd.R (Kd.int .u8) 5 w' w.heap.size (fun k => w.heap.size ≤ k ∧ ∀ ad, A' = some ad → ad.block ≠ k) (.slice Av (s.st.held ++ rest).length cv) (s.st.held ++ rest) ∧ Lined w w' B gs gw M A A' s (lineS s rest) := by
  by_cases h0 : s.st.held = []
  · refine (line_empty h hs Ab cb n rest hsrc hn hcb hl h0 hB).mono ?_
    rintro e w' ⟨Av, cv, rfl, hr, h1, h2, h3⟩
    exact ⟨Av, cv, A, rfl, hr, h1, h2, h3, fun ad e => Or.inl e⟩
  · refine (line_held h hs Ab cb n rest hsrc hn hcb hl h0 hB hfar).mono ?_
    rintro e w' ⟨Av, cv, A', rfl, hr, h1, h2, h3, h4⟩
    exact ⟨Av, cv, A', rfl, hr, h1, h2, h3, h4⟩
set_option maxHeartbeats 16000000 in
set_option maxRecDepth 100000 in
theorem tell_calls {w : World} {B gs gw : Nat} {M : Option Nat} {A : Option Addr} {s : SS} (h : StrAt w B gs gw M A s) (hs : Sml s) (Ab : Option Addr) (cb n : Nat) (rest : List Int) (hsrc : Kd.C (Kd.int .u8) w Ab rest.length rest) (hn : n = rest.length) (hcb : rest.length ≤ cb) (hl : rest.length ≤ 1000000) (hB : B ≤ w.heap.size) (hfar : 0 < rest.length → ∀ ad, Ab = some ad → ¬ Foot gs gw M A ad.block)
    (go gp bo : Nat) (v : Value) (ls : List Ln) (hgo : w.heap[go]? = some (.cells #[v] 35 (0, 0))) (hgp : w.heap[gp]? = some (.cells #[.pointer (some ⟨gs, 0, none⟩)] 27 (0, 0))) (hgoF : ¬ Foot gs gw M A go) (hgpF : ¬ Foot gs gw M A gp) (hgg : go ≠ gp) (hbo : bo ≤ w.heap.size) (hBgo : B ≤ go) (hBbo : B ≤ bo)
    (hO : Kd.R kL 47 w bo (fun k => ¬ Foot gs gw M A k ∧ k ≠ go ∧ k ≠ gp) v ls) (hll : ls.length ≤ 100000) :
    Calls Try.prog 26 #[.slice Ab n cb, .pointer (some ⟨go, 0, none⟩), .pointer (some ⟨gp, 0, none⟩)] w fun e w' => e = .returned (.tuple #[]) ∧ ∃ A' v1, StrAt w' B gs gw M A' (lineS s rest) ∧ w'.heap[go]? = some (.cells #[v1] 35 (0, 0)) ∧ Kd.R kL 47 w' bo (fun k => ¬ Foot gs gw M A' k ∧ k ≠ go ∧ k ≠ gp) v1 (ls ++ [lnOf s rest]) ∧ Kept w w' (fun k => Foot gs gw M A k ∨ k = go ∨ v.ownBlock = some k) ∧ Below B w w' ∧ ∀ ad, A' = some ad → A = some ad ∨ w.heap.size ≤ ad.block := by
  have HS := Aside0.mk h
  have HM := Aside0.mk hs
  have HR := Aside0.mk hsrc
  have HN := Aside0.mk hn
  have HCB := Aside0.mk hcb
  have HL := Aside0.mk hl
  have HBW := Aside0.mk hB
  have HF := Aside0.mk hfar
  have HGO := Aside0.mk hgo
  have HGP := Aside0.mk hgp
  have HFF := Aside0.mk (And.intro hgoF (And.intro hgpF hgg))
  have HBO := Aside0.mk (And.intro hbo (And.intro hBgo hBbo))
  have HO := Aside0.mk hO
  have HLL := Aside0.mk hll
  have k0 : w.cell? ⟨go, 0, none⟩ = some v := (blk_cell hgo 0).trans rfl
  have k1 : w.cell? ⟨gp, 0, none⟩ = some (.pointer (some ⟨gs, 0, none⟩)) := (blk_cell hgp 0).trans rfl
  obtain ⟨Ax, cx, hv⟩ := Kd.R_slice hO
  subst hv
  clear h hs hsrc hn hcb hl hB hfar hgo hgp hgoF hgpF hgg hbo hBgo hBbo hO hll
  go_enter Try.func26, Try.ntmps26
  go_wp2_with fail
  refine wp_region_E (fun w' => w'.cell? ⟨go, 0, none⟩ = some (.slice Ax ls.length cx) ∧ w'.cell? ⟨gp, 0, none⟩ = some (.pointer (some ⟨gs, 0, none⟩))) 6 (by kernel_rfl) ⟨k0, k1⟩ (fun hHeld => ?_)
  refine wpAnyE_take (i := 0) (oi := { dst := some 4, op := Op.load 35 (Operand.tmp 1), type := 35, pos := "stream.go:54", after := #[], guard := none }) (v := ?_) [] (by kernel_rfl) rfl (by kernel_rfl) (by kernel_rfl) (by kernel_rfl) (fun _ _ _ h => h) (Or.inl ⟨by rfl, ?_⟩) (by assumption) ?_
  rotate_left 1
  · intro w hSw
    (try dsimp only at hSw)
    go_simp
    all_goals try with_reducible rfl
  try simp only [Act.put, List.setIfInBounds_toArray, List.set_cons_zero, List.set_cons_succ]
  refine wpAnyE_take (i := 1) (oi := { dst := some 5, op := Op.load 27 (Operand.tmp 2), type := 27, pos := "stream.go:54", after := #[], guard := none }) (v := ?_) [] (by kernel_rfl) rfl (by kernel_rfl) (by kernel_rfl) (by kernel_rfl) (fun _ _ _ h => h) (Or.inl ⟨by rfl, ?_⟩) (by assumption) ?_
  rotate_left 1
  · intro w hSw
    (try dsimp only at hSw)
    go_simp
    all_goals try with_reducible rfl
  try simp only [Act.put, List.setIfInBounds_toArray, List.set_cons_zero, List.set_cons_succ]
  refine wpAnyE_take (i := 2) (oi := { dst := some 6, op := Op.move (Operand.tmp 0), type := 38, pos := "stream.go:54", after := #[], guard := none }) (v := ?_) [] (by kernel_rfl) rfl (by kernel_rfl) (by kernel_rfl) (by kernel_rfl) (fun _ _ _ h => h) (Or.inl ⟨by rfl, ?_⟩) (by assumption) ?_
  rotate_left 1
  · intro w hSw
    (try dsimp only at hSw)
    go_simp
    all_goals try with_reducible rfl
  try simp only [Act.put, List.setIfInBounds_toArray, List.set_cons_zero, List.set_cons_succ]
  refine wpAnyE_one (i := 3) (o := { dst := some 7, op := Op.call { callee := Callee.value (Operand.func 27), args := #[Operand.tmp 5, Operand.tmp 6], argTypes := #[27, 38] }, type := 47, pos := "stream.go:54", after := #[{ on := 1, ground := Ground.data }, { on := 2, ground := Ground.data }], guard := none }) (by kernel_rfl) rfl (fun K hK => ?_)
  clear hHeld
  go_simp
  refine (line_calls (HS.out.below (below_drew (Below.refl _ _))) HM.out Ab cb n rest (Kd.C_below HR.out (below_drew (Below.refl _ _))) HN.out HCB.out HL.out HBW.out HF.out).mono ?_
  rintro e w3 ⟨Av, cv, A', rfl, hr, hli⟩
  obtain ⟨T, hT⟩ : ∃ T, T = s.st.held ++ rest := ⟨_, rfl⟩
  rw [← hT] at hr ⊢
  have HT := Aside0.mk hT
  have HLI := Aside0.mk (show Lined w w3 B gs gw M A A' s (lineS s rest) from ⟨hli.str, hli.kept, Below.trans (Below.drew (Below.refl B w)) hli.bel, hli.mov⟩)
  have HFL := Aside0.mk (foot_lt HS.out)
  have HGL := Aside0.mk (And.intro (blk_lt HGO.out) (blk_lt HGP.out))
  have HGO3 := Aside0.mk (blk_kept HGO.out HLI.out.kept HFF.out.1)
  have HGP3 := Aside0.mk (blk_kept HGP.out HLI.out.kept HFF.out.2.1)
  have HRT := Aside0.mk (show Kd.R (Kd.int .u8) 5 w3 w.heap.size (fun k => ¬ Foot gs gw M A' k ∧ w.heap.size ≤ k ∧ k ≠ go ∧ k ≠ gp) (.slice Av T.length cv) T from Kd.R_mono hr (fun k hk => by
    have h1 := HFL.out
    have h2 := HGL.out
    have h3 : w.drew.heap.size ≤ k := hk.1
    have h4 : w.heap.size ≤ k := h3
    refine ⟨fun hf => ?_, h4, by omega, by omega⟩
    rcases hf with e | e | e | ⟨ad, e, e2⟩
    · have := h1 k (Or.inl e); omega
    · have := h1 k (Or.inr (Or.inl e)); omega
    · have := h1 k (Or.inr (Or.inr (Or.inl e))); omega
    · exact hk.2 ad e e2))
  have HO3 := Aside0.mk (show Kd.R kL 47 w3 bo (fun k => (¬ Foot gs gw M A' k ∧ k ≠ go ∧ k ≠ gp) ∧ k < w.heap.size) (.slice Ax ls.length cx) ls from Kd.R_mono (Kd.R_kept (Kd.R_bound HO.out) HLI.out.kept (fun k hk hs => hk.1.1 hs)) (fun k hk => ⟨⟨fun hf => by
    rcases HLI.out.foot k hf with h1 | h1
    · exact hk.1.1 h1
    · have := hk.2.2.1; omega, hk.1.2⟩, hk.2.2.1⟩))
  have HOB := Aside0.mk (fun (k : Nat) (e : (Value.slice Ax ls.length cx).ownBlock = some k) => Kd.R_base HO.out k e)
  have HOL := Aside0.mk (fun (k : Nat) (e : (Value.slice Ax ls.length cx).ownBlock = some k) => (HO3.out.1 k e).2)
  clear hr hli k0 k1
  have k0 := (blk_cell HGO3.out 0).trans (show _ = some (Value.slice Ax ls.length cx) from rfl)
  have k1 := (blk_cell HGP3.out 0).trans (show _ = some (Value.pointer (some ⟨gs, 0, none⟩)) from rfl)
  have HTL := Aside0.mk (show T.length ≤ 2000000000 by rw [hT, List.length_append]; have := HM.out.room; have := HL.out; have := Win.tot HS.out.win; omega)
  clear hT
  refine hK.out _ _ ⟨k0, k1⟩ (fun hHeld => ?_)
  clear hK K
  try simp only [Act.put, List.setIfInBounds_toArray, List.set_cons_zero, List.set_cons_succ]
  refine wpAnyE_one (i := 4) (o := { dst := some 8, op := Op.buildSlice 35 1 #[(0, Operand.tmp 7)], type := 35, pos := "stream.go:54", after := #[{ on := 3, ground := Ground.data }], guard := none }) (by kernel_rfl) rfl (fun K hK => ?_)
  clear hHeld
  go_simp
  refine hK.out _ _ ⟨(cell_kept (a := ⟨go, 0, none⟩) k0 (Kept.alloc (Kept.refl w3 (fun _ => False)) _) (fun h => h)), (cell_kept (a := ⟨gp, 0, none⟩) k1 (Kept.alloc (Kept.refl w3 (fun _ => False)) _) (fun h => h))⟩ (fun hHeld => ?_)
  clear hK K
  try simp only [Act.put, List.setIfInBounds_toArray, List.set_cons_zero, List.set_cons_succ]
  refine wpAnyE_one (i := 5) (o := { dst := some 9, op := Op.call { callee := Callee.builtin Builtin.append, args := #[Operand.tmp 4, Operand.tmp 8], argTypes := #[35, 35] }, type := 35, pos := "stream.go:54", after := #[{ on := 0, ground := Ground.data }, { on := 4, ground := Ground.data }, { on := 3, ground := Ground.chain }], guard := none }) (by kernel_rfl) rfl (fun K hK => ?_)
  clear hHeld
  refine Kd.R_append_step kL (w0 := w3) (W := w3) bo (by rfl) (.tmp 4) (.tmp 8) 35 47 (.agg #[.int .i64 0, .int .i64 0, .slice none 0 0]) 40 (by rfl) Try.underlying35 infoL rfl (by decide) (by decide) (.slice Ax ls.length cx) ls ((s.num : Int), (s.off : Int), T) [.int .i64 (s.num : Int), .int .i64 (s.off : Int), .slice Av T.length cv] (fun k => ¬ Foot gs gw M A' k ∧ k ≠ go ∧ k ≠ gp) (fun k => ¬ Foot gs gw M A' k ∧ w.heap.size ≤ k ∧ k ≠ go ∧ k ≠ gp) (by rfl) (by rfl) (kL_mkM _ _ _ ((s.num : Int), (s.off : Int), T) (Kd.R_lower HRT.out HBO.out.1)) (fun k hk => ⟨⟨hk.1, hk.2.2⟩, fun e => by have := HOL.out k e.symm; omega⟩) (fun k hk => ?_) (Kd.R_mono HO3.out (fun k hk => hk.1)) (Below.refl bo w3) (by have := HLI.out.kept.1; have := HBO.out.1; omega) (by have := HLL.out; omega) ?_
  · have h1 := foot_lt HLI.out.str
    have h2 := HGL.out
    have h3 := HLI.out.kept.1
    exact ⟨fun hf => by have := h1 k hf; omega, by omega, by omega⟩
  intro v1 w4 hr1 hb1 hg1 hat1
  obtain ⟨ls1, hls⟩ : ∃ ls1, ls1 = ls ++ [((s.num : Int), (s.off : Int), T)] := ⟨_, rfl⟩
  rw [← hls] at hr1
  have HLS := Aside0.mk hls
  clear hls
  obtain ⟨Ay, cy, hv1⟩ := Kd.R_slice hr1
  subst hv1
  have HK4 := Aside0.mk (show Kept w3 w4 (fun k => (Value.slice Ax ls.length cx).ownBlock = some k) from Kept.of_grown hg1 (Kept.refl _ _) (fun k hk => Or.inl hk))
  have HGO4 := Aside0.mk (blk_kept HGO3.out HK4.out (fun e => (HO3.out.1 go e).1.2.1 rfl))
  have HGP4 := Aside0.mk (blk_kept HGP3.out HK4.out (fun e => (HO3.out.1 gp e).1.2.2 rfl))
  have HS4 := Aside0.mk (HLI.out.str.kept HK4.out (fun k hk e => (HO3.out.1 k e).1.1 hk))
  have HR4 := Aside0.mk hr1
  have HB4 := Aside0.mk hb1
  clear hr1 hb1 hg1 hat1 k0 k1
  have k0 := (blk_cell HGO4.out 0).trans (show _ = some (Value.slice Ax ls.length cx) from rfl)
  have k1 := (blk_cell HGP4.out 0).trans (show _ = some (Value.pointer (some ⟨gs, 0, none⟩)) from rfl)
  have f0 := blk_frozen HGO4.out 0
  refine hK.out _ _ ⟨k0, k1⟩ (fun hHeld => ?_)
  clear hK K
  try simp only [Act.put, List.setIfInBounds_toArray, List.set_cons_zero, List.set_cons_succ]
  refine wpAnyE_last (o := { dst := none, op := Op.store 35 (Operand.tmp 1) (Operand.tmp 9), type := 0, pos := "stream.go:54", after := #[{ on := 5, ground := Ground.data }, { on := 5, ground := Ground.chain }, { on := 0, ground := Ground.phase }, { on := 1, ground := Ground.phase }, { on := 2, ground := Ground.phase }, { on := 3, ground := Ground.phase }, { on := 4, ground := Ground.phase }, { on := 5, ground := Ground.phase }], guard := none }) (by kernel_rfl) rfl (fun K hK => ?_)
  clear hHeld
  go_simp
  refine hK.out _ _ ?_
  clear hK K
  refine wpAnyE_done (by kernel_rfl) ?_ _
  try simp only [Act.put, List.setIfInBounds_toArray, List.set_cons_zero, List.set_cons_succ]
  go_wp2
  refine bodyPost_end (results_none rfl _ _ _) rfl ?_
  refine ⟨rfl, A', .slice Ay ls1.length cy, ?_, blk_set HGO4.out 0 _, ?_, ?_, ?_, HLI.out.mov⟩
  · refine HS4.out.kept (Kept.setCell (S := fun k => k = go) (p := ⟨go, 0, none⟩) (Kept.refl w4 _) (Or.inl rfl) (.slice Ay ls1.length cy)) (fun k hk e => ?_)
    rcases HLI.out.foot k hk with h1 | h1
    · exact HFF.out.1 (by rw [← e]; exact h1)
    · have := HGL.out; omega
  · have := Kd.R_far HR4.out (p := ⟨go, 0, none⟩) (fun k hk => hk.2.1) (.slice Ay ls1.length cy)
    rw [show ls ++ [lnOf s rest] = ls1 by rw [HLS.out]; unfold lnOf; rw [HT.out]]
    exact this
  · refine Kept.setCell (S := fun k => Foot gs gw M A k ∨ k = go ∨ (Value.slice Ax ls.length cx).ownBlock = some k) (p := ⟨go, 0, none⟩) (Kept.then_ (Kept.mono HLI.out.kept (fun k hk => Or.inl hk)) HK4.out (fun k hk => Or.inl (Or.inr (Or.inr hk)))) (Or.inl (Or.inr (Or.inl rfl))) (.slice Ay ls1.length cy)
  · exact Below.setCell (p := ⟨go, 0, none⟩) (Below.trans HLI.out.bel (HB4.out.mono HBO.out.2.2)) HBO.out.2.1 (.slice Ay ls1.length cy)
end Go.Proofs.Ytgiaabgmnjaefaa.Str
