/- A stream's line where something is held: it goes into the window, and out of it. -/
import Derived.Test.YtgiaabgmnjaefaaStrB
namespace Go.Proofs.Ytgiaabgmnjaefaa.Str
open Go Go.RowKit Go.Proofs Go.Proofs.Ytgiaabgmnjaefaa.Met Go.Proofs.Ytgiaabgmnjaefaa.Win Go.Proofs.YtgiaabgmnjaefaaW.PrintWords Go.Proofs.YtgiaabgmnjaefaaW.PrintMore
set_option linter.unusedVariables false
set_option linter.unusedSimpArgs false
attribute [local go_sem] max2_int min2_int max_two min_two max_three min_three
theorem foot_lt {w : World} {B gs gw : Nat} {M : Option Nat} {A : Option Addr} {s : SS} (h : StrAt w B gs gw M A s) : ∀ k, Foot gs gw M A k → k < w.heap.size := by
  intro k hk
  rcases hk with rfl | rfl | hk | ⟨ad, e, rfl⟩
  · exact blk_lt h.box
  · exact h.win.lt
  · obtain ⟨buf, h1, _, _⟩ := h.win
    exact h1.met.lt k hk
  · exact Win.alt h.win ad e
theorem Win.tot {w : World} {g : Nat} {M : Option Nat} {c : Int} {A : Option Addr} {st : St} (h : Win w g M c A st) : st.held.length ≤ st.room := h.le
theorem line_post2 {w W2 W5 : World} {B gs gw gl : Nat} {M : Option Nat} {A A' : Option Addr} {s : SS} {rest T : List Int} {Av : Option Addr} {cv : Nat} {st1 : St} (h : StrAt w B gs gw M A s) (hB : B ≤ w.heap.size) (hT : T = s.st.held ++ rest) (hst : (lineS s rest).st = clearS st1) (g2 : StrAt W2 B gs gw M A' { s with st := clearS st1 })
    (g3 : Kd.R (Kd.int .u8) 5 W2 w.heap.size (fun k => w.heap.size < k ∧ k ≠ gl ∧ ∀ ad, A' = some ad → ad.block ≠ k) (.slice Av T.length cv) T) (g4 : Below B w W2) (gk : Kept w W2 (Foot gs gw M A))
    (k2 : W5.heap[gs]? = some (.cells #[.pointer (mp M), .pointer (some ⟨gw, 0, none⟩), .int .i64 s.most, .int .i64 ((s.num : Int) + 1), .int .i64 ((s.off : Int) + ((T.length : Int) + 1)), .bool s.over, .int .i64 s.bad] 70 (0, 0)))
    (kk : Kept W2 W5 (fun k => k = gs ∨ k = w.heap.size)) (hb : Below B W2 W5) (ha2 : ∀ ad, A' = some ad → ad.block ≠ gl ∧ ad.block ≠ w.heap.size ∧ ad.block ≠ gs) (ha3 : ∀ ad, A' = some ad → A = some ad ∨ w.heap.size ≤ ad.block) : ∃ Av' cv' A'', Ending.returned (.agg #[.int .i64 (s.num : Int), .int .i64 (s.off : Int), .slice Av T.length cv]) = Ending.returned (.agg #[.int .i64 (s.num : Int), .int .i64 (s.off : Int), .slice Av' (s.st.held ++ rest).length cv']) ∧ Kd.R (Kd.int .u8) 5 W5 w.heap.size (fun k => w.heap.size ≤ k ∧ ∀ ad, A'' = some ad → ad.block ≠ k) (.slice Av' (s.st.held ++ rest).length cv') (s.st.held ++ rest) ∧ StrAt W5 B gs gw M A'' (lineS s rest) ∧ Kept w W5 (Foot gs gw M A) ∧ Below B w W5 ∧ ∀ ad, A'' = some ad → A = some ad ∨ w.heap.size ≤ ad.block := by
  have hlt := h.lt
  subst hT
  have hsn : ((lineS s rest).num : Int) = (s.num : Int) + 1 := by simp [lineS]
  have hso : ((lineS s rest).off : Int) = (s.off : Int) + (((s.st.held ++ rest).length : Int) + 1) := by simp [lineS]
  refine ⟨Av, cv, A', rfl, ?_, ⟨?_, ?_, g2.ne, g2.low⟩, ?_, Below.trans g4 hb, ha3⟩
  · exact Kd.R_mono (Kd.R_kept g3 kk (fun k hk e => by omega)) (fun k hk => ⟨by omega, hk.2.2⟩)
  · rw [hsn, hso]
    exact k2
  · rw [hst]
    refine g2.win.kept kk (fun e => ?_) (fun k hk e => ?_) (fun ad hA e => ?_)
    · have := h.ne.1; omega
    · rcases e with e | e
      · exact h.ne.2.1 (by rw [hk, e])
      · obtain ⟨buf, h1, _, _⟩ := h.win
        have := h1.met.lt k hk
        omega
    · have := ha2 ad hA
      omega
  · exact Kept.then_ (S2 := fun k => k = gs ∨ k = w.heap.size) gk kk (fun k hk => hk.elim (fun e => Or.inl (Or.inl e)) (fun e => Or.inr (by omega)))
set_option maxHeartbeats 16000000 in
set_option maxRecDepth 100000 in
theorem line_held {w : World} {B gs gw : Nat} {M : Option Nat} {A : Option Addr} {s : SS} (h : StrAt w B gs gw M A s) (hs : Sml s) (Ab : Option Addr) (cb n : Nat) (rest : List Int) (hsrc : Kd.C (Kd.int .u8) w Ab rest.length rest) (hn : n = rest.length) (hcb : rest.length ≤ cb) (hl : rest.length ≤ 1000000) (h0 : s.st.held ≠ []) (hB : B ≤ w.heap.size) (hfar : 0 < rest.length → ∀ ad, Ab = some ad → ¬ Foot gs gw M A ad.block) :
    Calls Try.prog 27 #[.pointer (some ⟨gs, 0, none⟩), .slice Ab n cb] w fun e w' => ∃ Av cv A', e = .returned (.agg #[.int .i64 (s.num : Int), .int .i64 (s.off : Int), .slice Av (s.st.held ++ rest).length cv]) ∧ Kd.R (Kd.int .u8) 5 w' w.heap.size (fun k => w.heap.size ≤ k ∧ ∀ ad, A' = some ad → ad.block ≠ k) (.slice Av (s.st.held ++ rest).length cv) (s.st.held ++ rest) ∧ StrAt w' B gs gw M A' (lineS s rest) ∧ Kept w w' (Foot gs gw M A) ∧ Below B w w' ∧ ∀ ad, A' = some ad → A = some ad ∨ w.heap.size ≤ ad.block := by
  have HS := Aside0.mk h
  have HM := Aside0.mk hs
  have HR := Aside0.mk hsrc
  have HCB := Aside0.mk hcb
  have HL := Aside0.mk hl
  have H0 := Aside0.mk h0
  have HBW := Aside0.mk hB
  have HN := Aside0.mk hn
  have HF := Aside0.mk hfar
  have k3 : w.cell? ⟨gs, 3, none⟩ = some (.int .i64 (s.num : Int)) := (blk_cell h.box 3).trans rfl
  have k4 : w.cell? ⟨gs, 4, none⟩ = some (.int .i64 (s.off : Int)) := (blk_cell h.box 4).trans rfl
  have hlt := blk_lt h.box
  have hz := zeroLine
  have hu := Try.underlying70
  have hul := Try.underlying47
  clear h hs hsrc hcb hl h0 hB hn hfar
  go_enter Try.func27, Try.ntmps27
  go_wp2_with fail
  obtain ⟨w1, hw1⟩ : ∃ w1, w1 = w.alloc (.cells #[.int .i64 0, .int .i64 0, .slice none 0 0] 47) := ⟨_, rfl⟩
  have HB1 := Aside0.mk (show Below w.heap.size w w1 by rw [hw1]; exact below_alloc (Below.refl _ _) _)
  have HL1 := Aside0.mk (show w1.heap[w.heap.size]? = some (.cells #[.int .i64 0, .int .i64 0, .slice none 0 0] 47 (0, 0)) by rw [hw1]; exact blk_new _ _)
  rw [← hw1]
  have HS1 := Aside0.mk (HS.out.below HB1.out)
  have p3 : w1.cell? ⟨gs, 3, none⟩ = some (.int .i64 (s.num : Int)) := (blk_cell HS1.out.box 3).trans rfl
  have p4 : w1.cell? ⟨gs, 4, none⟩ = some (.int .i64 (s.off : Int)) := (blk_cell HS1.out.box 4).trans rfl
  have hlt1 := blk_lt HS1.out.box
  have hne1 : ¬ gs = w1.heap.size := by omega
  have hne2 : ¬ w1.heap.size = gs := by omega
  clear hw1 k3 k4 hlt hlt1
  go_region_held3 (fun w' => w'.cell? ⟨gs, 3, none⟩ = some (.int .i64 (s.num : Int)) ∧ w'.cell? ⟨gs, 4, none⟩ = some (.int .i64 (s.off : Int)))
    (first | exact ⟨p3, p4⟩ | go_keep)
    ((first
      | (go_at_call 34; (with_reducible refine (Met.clone_calls Ab cb rest n w1.drew (Kd.C_below HR.out (below_step HB1.out (below_drew (Below.refl w1.heap.size w1)))) HCB.out HN.out (by have := HL.out; omega)).mono ?_); rintro e w2 ⟨v, rfl, hr, hb⟩; obtain ⟨Av, cv, hv⟩ := Kd.R_slice hr; subst hv; have HR2 := Aside0.mk hr; have HBB := Aside0.mk (below_step (below_drew (Below.refl w1.heap.size w1)) hb); have HS2 := Aside0.mk (HS1.out.below HBB.out); have HL2 := Aside0.mk (blk_below HL1.out HBB.out); clear p3 p4 hr hb; have p3 := (blk_cell HS2.out.box 3).trans (show _ = some (Value.int .i64 (s.num : Int)) from rfl); have p4 := (blk_cell HS2.out.box 4).trans (show _ = some (Value.int .i64 (s.off : Int)) from rfl))
      | (go_at_call 34; (with_reducible refine (Met.clone_calls Ab cb rest n (w1.alloc (.cells #[.int .i64 0, .int .i64 0, .slice none 0 0] 47)).drew (Kd.C_below HR.out (below_step HB1.out (below_drew (below_alloc (Below.refl w1.heap.size w1) (.cells #[.int .i64 0, .int .i64 0, .slice none 0 0] 47))))) HCB.out HN.out (by have := HL.out; omega)).mono ?_); rintro e w2 ⟨v, rfl, hr, hb⟩; obtain ⟨Av, cv, hv⟩ := Kd.R_slice hr; subst hv; have HR2 := Aside0.mk hr; have HBB := Aside0.mk (below_step (below_drew (below_alloc (Below.refl w1.heap.size w1) (.cells #[.int .i64 0, .int .i64 0, .slice none 0 0] 47))) hb); have HS2 := Aside0.mk (HS1.out.below HBB.out); have HL2 := Aside0.mk (blk_below HL1.out HBB.out); have HG2 := Aside0.mk (blk_below (blk_below (blk_new w1 (.cells #[.int .i64 0, .int .i64 0, .slice none 0 0] 47)) (below_drew (Below.refl _ _))) hb); have g0 := (blk_cell HG2.out 0).trans (show _ = some (Value.int .i64 0) from rfl); have g1 := (blk_cell HG2.out 1).trans (show _ = some (Value.int .i64 0) from rfl); have g2 := (blk_cell HG2.out 2).trans (show _ = some (Value.slice none 0 0) from rfl); have gf0 := blk_frozen HG2.out 0; have gf1 := blk_frozen HG2.out 1; have gf2 := blk_frozen HG2.out 2; clear p3 p4 hr hb; have p3 := (blk_cell HS2.out.box 3).trans (show _ = some (Value.int .i64 (s.num : Int)) from rfl); have p4 := (blk_cell HS2.out.box 4).trans (show _ = some (Value.int .i64 (s.off : Int)) from rfl))))
  · have F1 := Aside0.mk (blk_new w2 (.cells #[.int .i64 (s.num : Int), .int .i64 (s.off : Int), .slice Av rest.length cv] 47))
    have F4 := Aside0.mk (below_alloc (below_step HB1.out HBB.out) (.cells #[.int .i64 (s.num : Int), .int .i64 (s.off : Int), .slice Av rest.length cv] 47))
    have F2 := Aside0.mk (HS2.out.below (below_alloc (Below.refl w2.heap.size w2) (.cells #[.int .i64 (s.num : Int), .int .i64 (s.off : Int), .slice Av rest.length cv] 47)))
    have F5 := Aside0.mk (show w.heap.size < w2.heap.size from blk_lt HL2.out)
    have F3 := Aside0.mk (Kd.R_lower (base' := w.heap.size) (Kd.R_mono (ok' := fun k => w.heap.size < k ∧ k ≠ w2.heap.size) (Kd.R_alloc (Kd.R_bound HR2.out) (.cells #[.int .i64 (s.num : Int), .int .i64 (s.off : Int), .slice Av rest.length cv] 47)) (fun k hk => by have := hk.2.1; have := hk.2.2.1; have : w1.drew.heap.size = w1.heap.size := rfl; have := blk_lt HL1.out; omega)) (by have : w1.drew.heap.size = w1.heap.size := rfl; have := HB1.out.size; omega))
    have F6 := Aside0.mk (blk_alloc HL2.out (.cells #[.int .i64 (s.num : Int), .int .i64 (s.off : Int), .slice Av rest.length cv] 47))
    clear HR2 HS2 HL2 HBB p3 p4 hne1 hne2
    generalize w2.alloc (.cells #[.int .i64 (s.num : Int), .int .i64 (s.off : Int), .slice Av rest.length cv] 47) = W at F1 F2 F3 F4 F6 ⊢
    generalize w2.heap.size = gl at F1 F3 F5 ⊢
    have k1 : W.cell? ⟨gs, 1, none⟩ = some (.pointer (some ⟨gw, 0, none⟩)) := (blk_cell F2.out.box 1).trans rfl
    have hlp : 0 < s.st.held.length := by have := H0.out; exact List.length_pos_iff.mpr this
    have e0 : decide ((s.st.held.length : Int) > 0) = true := decide_eq_true (by omega)
    have e1 : decide (0 < s.st.held.length) = true := decide_eq_true hlp
    have HFT := Aside0.mk (foot_lt HS.out)
    have HGL0 := Aside0.mk (show w.heap.size < gl ∧ gl < W.heap.size from ⟨F5.out, blk_lt F1.out⟩)
    go_wp2_with fail
    refine (win_len F2.out.win).mono ?_
    rintro e W2 ⟨rfl, hb⟩
    have G1 := Aside0.mk (blk_below F1.out hb)
    have G2 := Aside0.mk (F2.out.below hb)
    have G4 := Aside0.mk (below_step F4.out hb)
    have G6 := Aside0.mk (blk_below F6.out hb)
    have HWS := Aside0.mk hb.size
    clear k1 hb F1 F2 F3 F4 F6 hlp
    have k1 : W2.cell? ⟨gs, 1, none⟩ = some (.pointer (some ⟨gw, 0, none⟩)) := (blk_cell G2.out.box 1).trans rfl
    have HTL := Aside0.mk (Win.tot G2.out.win)
    go_wp2_with fail
    rw [HN.out]
    refine (win_add G2.out.win Ab cb B rest HS.out.low.2.1 HS.out.low.2.2.1 HS.out.low.2.2.2 (Kd.C_below HR.out G4.out) (fun hp ad e => ⟨fun e2 => HF.out hp ad e (Or.inr (Or.inl e2)), fun e2 => HF.out hp ad e (Or.inr (Or.inr (Or.inl e2)))⟩) (by have := HM.out.room; omega) (by have := HL.out; omega) (by have := HM.out.mv; omega)).mono ?_
    rintro e W2a ⟨rfl, A', hw, hao, hba, hkp, hbb⟩
    have HAO := Aside0.mk (show ∀ ad, A' = some ad → A = some ad ∨ W2.heap.size ≤ ad.block from fun ad e => by
      rcases hao with h | ⟨gb, h, h2⟩
      · exact Or.inl (by rw [← h]; exact e)
      · rw [h] at e; cases e; exact Or.inr h2)
    have HKP := Aside0.mk (Kept.mono hkp (S' := Foot gs gw M A) (fun k hk => Or.inr hk))
    have hng : ¬ (gs = gw ∨ M = some gs ∨ ∃ ad, A = some ad ∧ ad.block = gs) := by
      rintro (e | e | ⟨ad, e, e2⟩)
      · exact HS.out.ne.1 e
      · exact HS.out.ne.2.1 e
      · exact HS.out.ne.2.2 ad e e2
    have L2 := Aside0.mk (blk_kept G2.out.box hkp hng)
    have L1 := Aside0.mk (blk_kept G1.out HKP.out (fun e => by have := HFT.out _ e; have := HGL0.out; omega))
    have L6 := Aside0.mk (blk_kept G6.out HKP.out (fun e => by have := HFT.out _ e; omega))
    have LW := Aside0.mk hw
    have LB := Aside0.mk (Below.trans (G4.out.mono HBW.out) hbb)
    have LK := Aside0.mk (Kept.then_ (Kept.of_below G4.out (Foot gs gw M A)) HKP.out (fun k hk => Or.inl hk))
    have LA := Aside0.mk hba
    have HA2 := Aside0.mk (show ∀ ad, A' = some ad → ad.block ≠ gl ∧ ad.block ≠ w.heap.size ∧ ad.block ≠ gs from fun ad e => by
      have h1 := HGL0.out
      have h2 := HWS.out
      have h3 := HS.out.lt
      rcases HAO.out ad e with h | h
      · have := HFT.out ad.block (Or.inr (Or.inr (Or.inr ⟨ad, h, rfl⟩)))
        have := HS.out.ne.2.2 ad h
        omega
      · omega)
    have HA3 := Aside0.mk (show ∀ ad, A' = some ad → A = some ad ∨ w.heap.size ≤ ad.block from fun ad e => (HAO.out ad e).imp id (fun h => by have := HGL0.out; have := HWS.out; omega))
    clear hw hao hba hkp hbb hng k1 G1 G2 G4 G6
    have hal := add_le s.st rest HTL.out
    have HRM := Aside0.mk (show (addS s.st rest).room ≤ 100000000000 by have := HM.out.room; have := HL.out; have := HTL.out; omega)
    have HAH := Aside0.mk (add_held s.st rest)
    have HTT := Aside0.mk (show (s.st.held ++ rest).length ≤ 2000000000 by rw [List.length_append]; have := HM.out.room; have := HL.out; have := HTL.out; omega)
    obtain ⟨T, hT⟩ : ∃ T, T = s.st.held ++ rest := ⟨_, rfl⟩
    rw [← hT] at HAH HTT
    have HT := Aside0.mk hT
    clear hal hT
    have HST : Aside0 ((lineS s rest).st = clearS (addS s.st rest)) := ⟨by unfold lineS; exact if_neg (fun e => H0.out (List.length_eq_zero_iff.mp e))⟩
    generalize addS s.st rest = st1 at LW HRM HAH HST
    have k1 : W2a.cell? ⟨gs, 1, none⟩ = some (.pointer (some ⟨gw, 0, none⟩)) := (blk_cell L2.out 1).trans rfl
    go_wp2_with fail
    refine (win_bytes LW.out HRM.out).mono ?_
    rintro e W2b ⟨v, rfl, hr, hb⟩
    rw [HAH.out] at hr
    obtain ⟨Av, cv, hv⟩ := Kd.R_slice hr
    subst hv
    have N1 := Aside0.mk (blk_below L1.out hb)
    have N2 := Aside0.mk (blk_below L2.out hb)
    have N6 := Aside0.mk (blk_below L6.out hb)
    have NW := Aside0.mk (LW.out.below hb)
    have NB := Aside0.mk (Below.trans LB.out (hb.mono (by have := LB.out.size; have := HBW.out; omega)))
    have NK := Aside0.mk (Kept.below LK.out hb)
    have HW2A := Aside0.mk (show w.heap.size < W2a.heap.size ∧ gl < W2a.heap.size ∧ ∀ ad, A' = some ad → ad.block < W2a.heap.size from ⟨blk_lt L6.out, blk_lt L1.out, Win.alt LW.out⟩)
    have NR := Aside0.mk (Kd.R_lower (base' := w.heap.size) (Kd.R_mono (ok' := fun k => w.heap.size < k ∧ k ≠ gl ∧ ∀ ad, A' = some ad → ad.block ≠ k) (Kd.R_bound hr) (fun k hk => by have h1 := hk.2.1; have h2 := HW2A.out; exact ⟨by omega, by omega, fun ad e => by have := h2.2.2 ad e; omega⟩)) (Nat.le_of_lt HW2A.out.1))
    clear hr hb k1 L1 L2 L6 LW LB LK HW2A
    have hgl : gl ≠ gs := by have := HS.out.lt; have := HGL0.out; omega
    have hgl2 : ¬ gs = gl := fun e => hgl e.symm
    have z2 : ∃ v, W2b.cell? ⟨gl, 2, none⟩ = some v := ⟨_, (blk_cell N1.out 2).trans rfl⟩
    obtain ⟨z2v, z2⟩ := z2
    have zf := blk_frozen N1.out 2
    have O1 := Aside0.mk (blk_set N1.out 2 (.slice Av T.length cv))
    have O2 := Aside0.mk (blk_far N2.out (p := ⟨gl, 2, none⟩) hgl2 (.slice Av T.length cv))
    have O6 := Aside0.mk (blk_far N6.out (p := ⟨gl, 2, none⟩) (by have := HGL0.out; show w.heap.size ≠ gl; omega) (.slice Av T.length cv))
    have OKK := Aside0.mk (Kept.setCell (S := fun k => k = gl) (p := ⟨gl, 2, none⟩) (Kept.refl W2b _) (Or.inl rfl) (.slice Av T.length cv))
    have OB := Aside0.mk (Below.setCell (p := ⟨gl, 2, none⟩) NB.out (by have := HGL0.out; have := HBW.out; show B ≤ gl; omega) (.slice Av T.length cv))
    have OK := Aside0.mk (Kept.setCell (p := ⟨gl, 2, none⟩) NK.out (Or.inr (by have := HGL0.out; show w.heap.size ≤ gl; omega)) (.slice Av T.length cv))
    have k1 : W2b.cell? ⟨gs, 1, none⟩ = some (.pointer (some ⟨gw, 0, none⟩)) := (blk_cell N2.out 1).trans rfl
    have k1s : (W2b.setCell ⟨gl, 2, none⟩ (.slice Av T.length cv)).cell? ⟨gs, 1, none⟩ = some (.pointer (some ⟨gw, 0, none⟩)) := (blk_cell O2.out 1).trans rfl
    go_wp2_with fail
    have OW := Aside0.mk (NW.out.kept OKK.out (fun e => by have := HS.out.lt; have := HGL0.out; omega) (fun k hk e => by have := HFT.out k (Or.inr (Or.inr (Or.inl hk))); have := HGL0.out; omega) (fun ad e e2 => (HA2.out ad e).1 e2))
    have OR := Aside0.mk (Kd.R_kept NR.out OKK.out (fun k hk e => hk.2.1 e))
    clear z2 zf k1 k1s N1 N2 N6 NW NB NK NR OKK
    generalize W2b.setCell ⟨gl, 2, none⟩ (.slice Av T.length cv) = W2c at O1 O2 O6 OB OK OW OR ⊢
    refine (win_clear OW.out B HS.out.low.2.1).mono ?_
    rintro e W2 ⟨rfl, hw, hkp, hbb⟩
    have G1 := Aside0.mk (show W2.heap[gl]? = some (.cells #[.int .i64 (s.num : Int), .int .i64 (s.off : Int), .slice Av T.length cv] 47 (0, 0)) from blk_kept O1.out hkp (by have := HS.out.lt; have := HGL0.out; omega))
    have G2 := Aside0.mk (show StrAt W2 B gs gw M A' { s with st := clearS st1 } from ⟨blk_kept O2.out hkp HS.out.ne.1, hw, ⟨HS.out.ne.1, HS.out.ne.2.1, fun ad e => (HA2.out ad e).2.2⟩, HS.out.low.1, HS.out.low.2.1, HS.out.low.2.2.1, LA.out⟩)
    have G3 := Aside0.mk (Kd.R_kept OR.out hkp (fun k hk e => by have := HS.out.lt; omega))
    have G4 := Aside0.mk (Below.trans OB.out hbb)
    have GK := Aside0.mk (Kept.then_ (S2 := fun k => k = gw) OK.out hkp (fun k hk => Or.inl (Or.inr (Or.inl hk))))
    have G6 := Aside0.mk (blk_kept O6.out hkp (by have := HS.out.lt; omega))
    clear hw hkp hbb O1 O2 O6 OB OK OW OR
    have k3 : W2.cell? ⟨gs, 3, none⟩ = some (.int .i64 (s.num : Int)) := (blk_cell G2.out.box 3).trans rfl
    have f3 := blk_frozen G2.out.box 3
    have hn0 : 0 ≤ (s.num : Int) := by omega
    have hn1 : (s.num : Int) ≤ 1000000000 := by have := HM.out.num; omega
    go_wp2_with fail
    have hgl : gl ≠ gs := by have := HS.out.lt; have := HGL0.out; omega
    have hgr : w.heap.size ≠ gs := by have := blk_lt HS.out.box; omega
    have I1 := Aside0.mk (blk_far G1.out (p := ⟨gs, 3, none⟩) hgl (.int .i64 ((s.num : Int) + 1)))
    have I2 := Aside0.mk (blk_set G2.out.box 3 (.int .i64 ((s.num : Int) + 1)))
    have I6 := Aside0.mk (blk_far G6.out (p := ⟨gs, 3, none⟩) hgr (.int .i64 ((s.num : Int) + 1)))
    have HGL := Aside0.mk hgl
    have HGR := Aside0.mk hgr
    have IK := Aside0.mk (Kept.setCell (S := fun k => k = gs) (p := ⟨gs, 3, none⟩) (Kept.refl W2 _) (Or.inl rfl) (.int .i64 ((s.num : Int) + 1)))
    have IB := Aside0.mk (Below.setCell (p := ⟨gs, 3, none⟩) (Below.refl B W2) HS.out.low.1 (.int .i64 ((s.num : Int) + 1)))
    clear k3 f3 hn0 hn1 hgl hgr
    generalize W2.setCell ⟨gs, 3, none⟩ (.int .i64 ((s.num : Int) + 1)) = W3 at I1 I2 I6 IK IB ⊢
    have k4 : W3.cell? ⟨gs, 4, none⟩ = some (.int .i64 (s.off : Int)) := (blk_cell I2.out 4).trans rfl
    have f4 := blk_frozen I2.out 4
    have kl : W3.cell? ⟨gl, 2, none⟩ = some (.slice Av T.length cv) := (blk_cell I1.out 2).trans rfl
    have w1' : IntKind.i64.wrap ((T.length : Int) + 1) = (T.length : Int) + 1 := IntWalk.i64_in _ (by have := HTT.out; omega)
    have w2' : IntKind.i64.wrap ((s.off : Int) + ((T.length : Int) + 1)) = (s.off : Int) + ((T.length : Int) + 1) := IntWalk.i64_in _ (by have := HTT.out; have := HM.out.off; omega)
    have w3' : wrap64 ((T.length : Int) + 1) = (T.length : Int) + 1 := wr9 (by omega) (by have := HTT.out; omega)
    have w4' : wrap64 ((s.off : Int) + ((T.length : Int) + 1)) = (s.off : Int) + ((T.length : Int) + 1) := wr9 (by omega) (by have := HTT.out; have := HM.out.off; omega)
    go_region
    have J1 := Aside0.mk (show ((W3.setCell ⟨gs, 4, none⟩ (.int .i64 ((s.off : Int) + ((T.length : Int) + 1)))).drew).heap[gl]? = some (.cells #[.int .i64 (s.num : Int), .int .i64 (s.off : Int), .slice Av T.length cv] 47 (0, 0)) from blk_far I1.out (p := ⟨gs, 4, none⟩) HGL.out _)
    have J2 := Aside0.mk (show ((W3.setCell ⟨gs, 4, none⟩ (.int .i64 ((s.off : Int) + ((T.length : Int) + 1)))).drew).heap[gs]? = some (.cells #[.pointer (mp M), .pointer (some ⟨gw, 0, none⟩), .int .i64 s.most, .int .i64 ((s.num : Int) + 1), .int .i64 ((s.off : Int) + ((T.length : Int) + 1)), .bool s.over, .int .i64 s.bad] 70 (0, 0)) from blk_set I2.out 4 _)
    have J6 := Aside0.mk (show ((W3.setCell ⟨gs, 4, none⟩ (.int .i64 ((s.off : Int) + ((T.length : Int) + 1)))).drew).heap[w.heap.size]? = some (.cells #[.int .i64 0, .int .i64 0, .slice none 0 0] 47 (0, 0)) from blk_far I6.out (p := ⟨gs, 4, none⟩) HGR.out _)
    have JK := Aside0.mk (show Kept W2 (W3.setCell ⟨gs, 4, none⟩ (.int .i64 ((s.off : Int) + ((T.length : Int) + 1)))).drew (fun k => k = gs) from Kept.setCell (S := fun k => k = gs) (p := ⟨gs, 4, none⟩) IK.out (Or.inl rfl) _)
    have JB := Aside0.mk (show Below B W2 (W3.setCell ⟨gs, 4, none⟩ (.int .i64 ((s.off : Int) + ((T.length : Int) + 1)))).drew from below_drew (Below.setCell (p := ⟨gs, 4, none⟩) IB.out HS.out.low.1 _))
    clear I1 I2 I6 IK IB k4 f4 kl w1' w2' w3' w4'
    generalize (W3.setCell ⟨gs, 4, none⟩ (.int .i64 ((s.off : Int) + ((T.length : Int) + 1)))).drew = W4 at J1 J2 J6 JK JB ⊢
    have l0 : W4.cell? ⟨gl, 0, none⟩ = some (.int .i64 (s.num : Int)) := (blk_cell J1.out 0).trans rfl
    have l1 : W4.cell? ⟨gl, 1, none⟩ = some (.int .i64 (s.off : Int)) := (blk_cell J1.out 1).trans rfl
    have l2 : W4.cell? ⟨gl, 2, none⟩ = some (.slice Av T.length cv) := (blk_cell J1.out 2).trans rfl
    have r0 : W4.cell? ⟨w.heap.size, 0, none⟩ = some (.int .i64 0) := (blk_cell J6.out 0).trans rfl
    have r1 : W4.cell? ⟨w.heap.size, 1, none⟩ = some (.int .i64 0) := (blk_cell J6.out 1).trans rfl
    have r2 : W4.cell? ⟨w.heap.size, 2, none⟩ = some (.slice none 0 0) := (blk_cell J6.out 2).trans rfl
    have q0 := blk_frozen J6.out 0
    have q1 := blk_frozen J6.out 1
    have q2 := blk_frozen J6.out 2
    have HI := Aside0.mk (show (Try.prog.info? 47).map (·.size) = some 3 by kernel_rfl)
    go_wp2
    have K6 := Aside0.mk (blk_set (blk_set (blk_set J6.out 0 (.int .i64 (s.num : Int))) 1 (.int .i64 (s.off : Int))) 2 (.slice Av T.length cv))
    have K2 := Aside0.mk (blk_far (blk_far (blk_far J2.out (p := ⟨w.heap.size, 0, none⟩) HGR.out.symm (.int .i64 (s.num : Int))) (p := ⟨w.heap.size, 1, none⟩) HGR.out.symm (.int .i64 (s.off : Int))) (p := ⟨w.heap.size, 2, none⟩) HGR.out.symm (.slice Av T.length cv))
    have KK := Aside0.mk (Kept.setCell (p := ⟨w.heap.size, 2, none⟩) (Kept.setCell (p := ⟨w.heap.size, 1, none⟩) (Kept.setCell (p := ⟨w.heap.size, 0, none⟩) (Kept.mono JK.out (S' := fun k => k = gs ∨ k = w.heap.size) (fun k hk => Or.inl hk)) (Or.inl (Or.inr rfl)) (.int .i64 (s.num : Int))) (Or.inl (Or.inr rfl)) (.int .i64 (s.off : Int))) (Or.inl (Or.inr rfl)) (.slice Av T.length cv))
    have KB := Aside0.mk (Below.setCell (p := ⟨w.heap.size, 2, none⟩) (Below.setCell (p := ⟨w.heap.size, 1, none⟩) (Below.setCell (p := ⟨w.heap.size, 0, none⟩) JB.out HBW.out (.int .i64 (s.num : Int))) HBW.out (.int .i64 (s.off : Int))) HBW.out (.slice Av T.length cv))
    clear l0 l1 l2 r0 r1 r2 q0 q1 q2 J1 J2 J6 JK JB
    generalize ((W4.setCell ⟨w.heap.size, 0, none⟩ (.int .i64 (s.num : Int))).setCell ⟨w.heap.size, 1, none⟩ (.int .i64 (s.off : Int))).setCell ⟨w.heap.size, 2, none⟩ (.slice Av T.length cv) = W5 at K6 K2 KK KB ⊢
    refine bodyPost_ret (results_single rfl (Vals.cell w.heap.size 47 #[.int .i64 (s.num : Int), .int .i64 (s.off : Int), .slice Av T.length cv] (0, 0) _ rfl K6.out Try.underlying47 rfl HI.out Vals.nil)) rfl ?_
    exact line_post2 HS.out HBW.out HT.out HST.out G2.out G3.out G4.out GK.out K2.out KK.out KB.out HA2.out HA3.out
  · have F1 := Aside0.mk (blk_set (blk_set (blk_set HG2.out 0 (.int .i64 (s.num : Int))) 1 (.int .i64 (s.off : Int))) 2 (.slice Av rest.length cv))
    have hkk : Kept w2 (((w2.setCell ⟨w1.heap.size, 0, none⟩ (.int .i64 (s.num : Int))).setCell ⟨w1.heap.size, 1, none⟩ (.int .i64 (s.off : Int))).setCell ⟨w1.heap.size, 2, none⟩ (.slice Av rest.length cv)) (fun k => k = w1.heap.size) := Kept.setCell (S := fun k => k = w1.heap.size) (p := ⟨w1.heap.size, 2, none⟩) (Kept.setCell (S := fun k => k = w1.heap.size) (p := ⟨w1.heap.size, 1, none⟩) (Kept.setCell (S := fun k => k = w1.heap.size) (p := ⟨w1.heap.size, 0, none⟩) (Kept.refl _ _) (Or.inl rfl) _) (Or.inl rfl) _) (Or.inl rfl) _
    have hfs : ∀ k, Foot gs gw M A k → k < w1.heap.size := fun k hk => by
      rcases hk with rfl | rfl | hk | ⟨ad, e, rfl⟩
      · exact blk_lt HS1.out.box
      · exact HS1.out.win.lt
      · obtain ⟨buf, h1, _, _⟩ := HS1.out.win
        exact h1.met.lt k hk
      · exact Win.alt HS1.out.win ad e
    have F2 := Aside0.mk (HS2.out.kept hkk (fun k hk e => by have := hfs k hk; omega))
    have F4 := Aside0.mk (show Below w.heap.size w (((w2.setCell ⟨w1.heap.size, 0, none⟩ (.int .i64 (s.num : Int))).setCell ⟨w1.heap.size, 1, none⟩ (.int .i64 (s.off : Int))).setCell ⟨w1.heap.size, 2, none⟩ (.slice Av rest.length cv)) from Below.setCell (p := ⟨w1.heap.size, 2, none⟩) (Below.setCell (p := ⟨w1.heap.size, 1, none⟩) (Below.setCell (p := ⟨w1.heap.size, 0, none⟩) (below_step HB1.out HBB.out) HB1.out.size _) HB1.out.size _) HB1.out.size _)
    have F5 := Aside0.mk (show w.heap.size < w1.heap.size from blk_lt HL1.out)
    have hsz : ((w1.alloc (.cells #[.int .i64 0, .int .i64 0, .slice none 0 0] 47)).drew).heap.size = w1.heap.size + 1 := by rw [World.size_drew, World.size_alloc]
    have F3 := Aside0.mk (Kd.R_lower (base' := w.heap.size) (Kd.R_mono (ok' := fun k => w.heap.size < k ∧ k ≠ w1.heap.size) (Kd.R_kept (Kd.R_bound HR2.out) hkk (fun k hk e => by have := hk.2.1; omega)) (fun k hk => by have := hk.2.1; have := blk_lt HL1.out; omega)) (by have := HB1.out.size; omega))
    have F6 := Aside0.mk (blk_kept HL2.out hkk (by have := F5.out; omega))
    clear HR2 HS2 HL2 HBB HG2 g0 g1 g2 gf0 gf1 gf2 p3 p4 hne1 hne2 hkk hfs hsz
    generalize (((w2.setCell ⟨w1.heap.size, 0, none⟩ (.int .i64 (s.num : Int))).setCell ⟨w1.heap.size, 1, none⟩ (.int .i64 (s.off : Int))).setCell ⟨w1.heap.size, 2, none⟩ (.slice Av rest.length cv)) = W at F1 F2 F3 F4 F6 ⊢
    generalize w1.heap.size = gl at F1 F3 F5 ⊢
    have k1 : W.cell? ⟨gs, 1, none⟩ = some (.pointer (some ⟨gw, 0, none⟩)) := (blk_cell F2.out.box 1).trans rfl
    have hlp : 0 < s.st.held.length := by have := H0.out; exact List.length_pos_iff.mpr this
    have e0 : decide ((s.st.held.length : Int) > 0) = true := decide_eq_true (by omega)
    have e1 : decide (0 < s.st.held.length) = true := decide_eq_true hlp
    have HFT := Aside0.mk (foot_lt HS.out)
    have HGL0 := Aside0.mk (show w.heap.size < gl ∧ gl < W.heap.size from ⟨F5.out, blk_lt F1.out⟩)
    go_wp2_with fail
    refine (win_len F2.out.win).mono ?_
    rintro e W2 ⟨rfl, hb⟩
    have G1 := Aside0.mk (blk_below F1.out hb)
    have G2 := Aside0.mk (F2.out.below hb)
    have G4 := Aside0.mk (below_step F4.out hb)
    have G6 := Aside0.mk (blk_below F6.out hb)
    have HWS := Aside0.mk hb.size
    clear k1 hb F1 F2 F3 F4 F6 hlp
    have k1 : W2.cell? ⟨gs, 1, none⟩ = some (.pointer (some ⟨gw, 0, none⟩)) := (blk_cell G2.out.box 1).trans rfl
    have HTL := Aside0.mk (Win.tot G2.out.win)
    go_wp2_with fail
    rw [HN.out]
    refine (win_add G2.out.win Ab cb B rest HS.out.low.2.1 HS.out.low.2.2.1 HS.out.low.2.2.2 (Kd.C_below HR.out G4.out) (fun hp ad e => ⟨fun e2 => HF.out hp ad e (Or.inr (Or.inl e2)), fun e2 => HF.out hp ad e (Or.inr (Or.inr (Or.inl e2)))⟩) (by have := HM.out.room; omega) (by have := HL.out; omega) (by have := HM.out.mv; omega)).mono ?_
    rintro e W2a ⟨rfl, A', hw, hao, hba, hkp, hbb⟩
    have HAO := Aside0.mk (show ∀ ad, A' = some ad → A = some ad ∨ W2.heap.size ≤ ad.block from fun ad e => by
      rcases hao with h | ⟨gb, h, h2⟩
      · exact Or.inl (by rw [← h]; exact e)
      · rw [h] at e; cases e; exact Or.inr h2)
    have HKP := Aside0.mk (Kept.mono hkp (S' := Foot gs gw M A) (fun k hk => Or.inr hk))
    have hng : ¬ (gs = gw ∨ M = some gs ∨ ∃ ad, A = some ad ∧ ad.block = gs) := by
      rintro (e | e | ⟨ad, e, e2⟩)
      · exact HS.out.ne.1 e
      · exact HS.out.ne.2.1 e
      · exact HS.out.ne.2.2 ad e e2
    have L2 := Aside0.mk (blk_kept G2.out.box hkp hng)
    have L1 := Aside0.mk (blk_kept G1.out HKP.out (fun e => by have := HFT.out _ e; have := HGL0.out; omega))
    have L6 := Aside0.mk (blk_kept G6.out HKP.out (fun e => by have := HFT.out _ e; omega))
    have LW := Aside0.mk hw
    have LB := Aside0.mk (Below.trans (G4.out.mono HBW.out) hbb)
    have LK := Aside0.mk (Kept.then_ (Kept.of_below G4.out (Foot gs gw M A)) HKP.out (fun k hk => Or.inl hk))
    have LA := Aside0.mk hba
    have HA2 := Aside0.mk (show ∀ ad, A' = some ad → ad.block ≠ gl ∧ ad.block ≠ w.heap.size ∧ ad.block ≠ gs from fun ad e => by
      have h1 := HGL0.out
      have h2 := HWS.out
      have h3 := HS.out.lt
      rcases HAO.out ad e with h | h
      · have := HFT.out ad.block (Or.inr (Or.inr (Or.inr ⟨ad, h, rfl⟩)))
        have := HS.out.ne.2.2 ad h
        omega
      · omega)
    have HA3 := Aside0.mk (show ∀ ad, A' = some ad → A = some ad ∨ w.heap.size ≤ ad.block from fun ad e => (HAO.out ad e).imp id (fun h => by have := HGL0.out; have := HWS.out; omega))
    clear hw hao hba hkp hbb hng k1 G1 G2 G4 G6
    have hal := add_le s.st rest HTL.out
    have HRM := Aside0.mk (show (addS s.st rest).room ≤ 100000000000 by have := HM.out.room; have := HL.out; have := HTL.out; omega)
    have HAH := Aside0.mk (add_held s.st rest)
    have HTT := Aside0.mk (show (s.st.held ++ rest).length ≤ 2000000000 by rw [List.length_append]; have := HM.out.room; have := HL.out; have := HTL.out; omega)
    obtain ⟨T, hT⟩ : ∃ T, T = s.st.held ++ rest := ⟨_, rfl⟩
    rw [← hT] at HAH HTT
    have HT := Aside0.mk hT
    clear hal hT
    have HST : Aside0 ((lineS s rest).st = clearS (addS s.st rest)) := ⟨by unfold lineS; exact if_neg (fun e => H0.out (List.length_eq_zero_iff.mp e))⟩
    generalize addS s.st rest = st1 at LW HRM HAH HST
    have k1 : W2a.cell? ⟨gs, 1, none⟩ = some (.pointer (some ⟨gw, 0, none⟩)) := (blk_cell L2.out 1).trans rfl
    go_wp2_with fail
    refine (win_bytes LW.out HRM.out).mono ?_
    rintro e W2b ⟨v, rfl, hr, hb⟩
    rw [HAH.out] at hr
    obtain ⟨Av, cv, hv⟩ := Kd.R_slice hr
    subst hv
    have N1 := Aside0.mk (blk_below L1.out hb)
    have N2 := Aside0.mk (blk_below L2.out hb)
    have N6 := Aside0.mk (blk_below L6.out hb)
    have NW := Aside0.mk (LW.out.below hb)
    have NB := Aside0.mk (Below.trans LB.out (hb.mono (by have := LB.out.size; have := HBW.out; omega)))
    have NK := Aside0.mk (Kept.below LK.out hb)
    have HW2A := Aside0.mk (show w.heap.size < W2a.heap.size ∧ gl < W2a.heap.size ∧ ∀ ad, A' = some ad → ad.block < W2a.heap.size from ⟨blk_lt L6.out, blk_lt L1.out, Win.alt LW.out⟩)
    have NR := Aside0.mk (Kd.R_lower (base' := w.heap.size) (Kd.R_mono (ok' := fun k => w.heap.size < k ∧ k ≠ gl ∧ ∀ ad, A' = some ad → ad.block ≠ k) (Kd.R_bound hr) (fun k hk => by have h1 := hk.2.1; have h2 := HW2A.out; exact ⟨by omega, by omega, fun ad e => by have := h2.2.2 ad e; omega⟩)) (Nat.le_of_lt HW2A.out.1))
    clear hr hb k1 L1 L2 L6 LW LB LK HW2A
    have hgl : gl ≠ gs := by have := HS.out.lt; have := HGL0.out; omega
    have hgl2 : ¬ gs = gl := fun e => hgl e.symm
    have z2 : ∃ v, W2b.cell? ⟨gl, 2, none⟩ = some v := ⟨_, (blk_cell N1.out 2).trans rfl⟩
    obtain ⟨z2v, z2⟩ := z2
    have zf := blk_frozen N1.out 2
    have O1 := Aside0.mk (blk_set N1.out 2 (.slice Av T.length cv))
    have O2 := Aside0.mk (blk_far N2.out (p := ⟨gl, 2, none⟩) hgl2 (.slice Av T.length cv))
    have O6 := Aside0.mk (blk_far N6.out (p := ⟨gl, 2, none⟩) (by have := HGL0.out; show w.heap.size ≠ gl; omega) (.slice Av T.length cv))
    have OKK := Aside0.mk (Kept.setCell (S := fun k => k = gl) (p := ⟨gl, 2, none⟩) (Kept.refl W2b _) (Or.inl rfl) (.slice Av T.length cv))
    have OB := Aside0.mk (Below.setCell (p := ⟨gl, 2, none⟩) NB.out (by have := HGL0.out; have := HBW.out; show B ≤ gl; omega) (.slice Av T.length cv))
    have OK := Aside0.mk (Kept.setCell (p := ⟨gl, 2, none⟩) NK.out (Or.inr (by have := HGL0.out; show w.heap.size ≤ gl; omega)) (.slice Av T.length cv))
    have k1 : W2b.cell? ⟨gs, 1, none⟩ = some (.pointer (some ⟨gw, 0, none⟩)) := (blk_cell N2.out 1).trans rfl
    have k1s : (W2b.setCell ⟨gl, 2, none⟩ (.slice Av T.length cv)).cell? ⟨gs, 1, none⟩ = some (.pointer (some ⟨gw, 0, none⟩)) := (blk_cell O2.out 1).trans rfl
    go_wp2_with fail
    have OW := Aside0.mk (NW.out.kept OKK.out (fun e => by have := HS.out.lt; have := HGL0.out; omega) (fun k hk e => by have := HFT.out k (Or.inr (Or.inr (Or.inl hk))); have := HGL0.out; omega) (fun ad e e2 => (HA2.out ad e).1 e2))
    have OR := Aside0.mk (Kd.R_kept NR.out OKK.out (fun k hk e => hk.2.1 e))
    clear z2 zf k1 k1s N1 N2 N6 NW NB NK NR OKK
    generalize W2b.setCell ⟨gl, 2, none⟩ (.slice Av T.length cv) = W2c at O1 O2 O6 OB OK OW OR ⊢
    refine (win_clear OW.out B HS.out.low.2.1).mono ?_
    rintro e W2 ⟨rfl, hw, hkp, hbb⟩
    have G1 := Aside0.mk (show W2.heap[gl]? = some (.cells #[.int .i64 (s.num : Int), .int .i64 (s.off : Int), .slice Av T.length cv] 47 (0, 0)) from blk_kept O1.out hkp (by have := HS.out.lt; have := HGL0.out; omega))
    have G2 := Aside0.mk (show StrAt W2 B gs gw M A' { s with st := clearS st1 } from ⟨blk_kept O2.out hkp HS.out.ne.1, hw, ⟨HS.out.ne.1, HS.out.ne.2.1, fun ad e => (HA2.out ad e).2.2⟩, HS.out.low.1, HS.out.low.2.1, HS.out.low.2.2.1, LA.out⟩)
    have G3 := Aside0.mk (Kd.R_kept OR.out hkp (fun k hk e => by have := HS.out.lt; omega))
    have G4 := Aside0.mk (Below.trans OB.out hbb)
    have GK := Aside0.mk (Kept.then_ (S2 := fun k => k = gw) OK.out hkp (fun k hk => Or.inl (Or.inr (Or.inl hk))))
    have G6 := Aside0.mk (blk_kept O6.out hkp (by have := HS.out.lt; omega))
    clear hw hkp hbb O1 O2 O6 OB OK OW OR
    have k3 : W2.cell? ⟨gs, 3, none⟩ = some (.int .i64 (s.num : Int)) := (blk_cell G2.out.box 3).trans rfl
    have f3 := blk_frozen G2.out.box 3
    have hn0 : 0 ≤ (s.num : Int) := by omega
    have hn1 : (s.num : Int) ≤ 1000000000 := by have := HM.out.num; omega
    go_wp2_with fail
    have hgl : gl ≠ gs := by have := HS.out.lt; have := HGL0.out; omega
    have hgr : w.heap.size ≠ gs := by have := blk_lt HS.out.box; omega
    have I1 := Aside0.mk (blk_far G1.out (p := ⟨gs, 3, none⟩) hgl (.int .i64 ((s.num : Int) + 1)))
    have I2 := Aside0.mk (blk_set G2.out.box 3 (.int .i64 ((s.num : Int) + 1)))
    have I6 := Aside0.mk (blk_far G6.out (p := ⟨gs, 3, none⟩) hgr (.int .i64 ((s.num : Int) + 1)))
    have HGL := Aside0.mk hgl
    have HGR := Aside0.mk hgr
    have IK := Aside0.mk (Kept.setCell (S := fun k => k = gs) (p := ⟨gs, 3, none⟩) (Kept.refl W2 _) (Or.inl rfl) (.int .i64 ((s.num : Int) + 1)))
    have IB := Aside0.mk (Below.setCell (p := ⟨gs, 3, none⟩) (Below.refl B W2) HS.out.low.1 (.int .i64 ((s.num : Int) + 1)))
    clear k3 f3 hn0 hn1 hgl hgr
    generalize W2.setCell ⟨gs, 3, none⟩ (.int .i64 ((s.num : Int) + 1)) = W3 at I1 I2 I6 IK IB ⊢
    have k4 : W3.cell? ⟨gs, 4, none⟩ = some (.int .i64 (s.off : Int)) := (blk_cell I2.out 4).trans rfl
    have f4 := blk_frozen I2.out 4
    have kl : W3.cell? ⟨gl, 2, none⟩ = some (.slice Av T.length cv) := (blk_cell I1.out 2).trans rfl
    have w1' : IntKind.i64.wrap ((T.length : Int) + 1) = (T.length : Int) + 1 := IntWalk.i64_in _ (by have := HTT.out; omega)
    have w2' : IntKind.i64.wrap ((s.off : Int) + ((T.length : Int) + 1)) = (s.off : Int) + ((T.length : Int) + 1) := IntWalk.i64_in _ (by have := HTT.out; have := HM.out.off; omega)
    have w3' : wrap64 ((T.length : Int) + 1) = (T.length : Int) + 1 := wr9 (by omega) (by have := HTT.out; omega)
    have w4' : wrap64 ((s.off : Int) + ((T.length : Int) + 1)) = (s.off : Int) + ((T.length : Int) + 1) := wr9 (by omega) (by have := HTT.out; have := HM.out.off; omega)
    go_region
    have J1 := Aside0.mk (show ((W3.setCell ⟨gs, 4, none⟩ (.int .i64 ((s.off : Int) + ((T.length : Int) + 1)))).drew).heap[gl]? = some (.cells #[.int .i64 (s.num : Int), .int .i64 (s.off : Int), .slice Av T.length cv] 47 (0, 0)) from blk_far I1.out (p := ⟨gs, 4, none⟩) HGL.out _)
    have J2 := Aside0.mk (show ((W3.setCell ⟨gs, 4, none⟩ (.int .i64 ((s.off : Int) + ((T.length : Int) + 1)))).drew).heap[gs]? = some (.cells #[.pointer (mp M), .pointer (some ⟨gw, 0, none⟩), .int .i64 s.most, .int .i64 ((s.num : Int) + 1), .int .i64 ((s.off : Int) + ((T.length : Int) + 1)), .bool s.over, .int .i64 s.bad] 70 (0, 0)) from blk_set I2.out 4 _)
    have J6 := Aside0.mk (show ((W3.setCell ⟨gs, 4, none⟩ (.int .i64 ((s.off : Int) + ((T.length : Int) + 1)))).drew).heap[w.heap.size]? = some (.cells #[.int .i64 0, .int .i64 0, .slice none 0 0] 47 (0, 0)) from blk_far I6.out (p := ⟨gs, 4, none⟩) HGR.out _)
    have JK := Aside0.mk (show Kept W2 (W3.setCell ⟨gs, 4, none⟩ (.int .i64 ((s.off : Int) + ((T.length : Int) + 1)))).drew (fun k => k = gs) from Kept.setCell (S := fun k => k = gs) (p := ⟨gs, 4, none⟩) IK.out (Or.inl rfl) _)
    have JB := Aside0.mk (show Below B W2 (W3.setCell ⟨gs, 4, none⟩ (.int .i64 ((s.off : Int) + ((T.length : Int) + 1)))).drew from below_drew (Below.setCell (p := ⟨gs, 4, none⟩) IB.out HS.out.low.1 _))
    clear I1 I2 I6 IK IB k4 f4 kl w1' w2' w3' w4'
    generalize (W3.setCell ⟨gs, 4, none⟩ (.int .i64 ((s.off : Int) + ((T.length : Int) + 1)))).drew = W4 at J1 J2 J6 JK JB ⊢
    have l0 : W4.cell? ⟨gl, 0, none⟩ = some (.int .i64 (s.num : Int)) := (blk_cell J1.out 0).trans rfl
    have l1 : W4.cell? ⟨gl, 1, none⟩ = some (.int .i64 (s.off : Int)) := (blk_cell J1.out 1).trans rfl
    have l2 : W4.cell? ⟨gl, 2, none⟩ = some (.slice Av T.length cv) := (blk_cell J1.out 2).trans rfl
    have r0 : W4.cell? ⟨w.heap.size, 0, none⟩ = some (.int .i64 0) := (blk_cell J6.out 0).trans rfl
    have r1 : W4.cell? ⟨w.heap.size, 1, none⟩ = some (.int .i64 0) := (blk_cell J6.out 1).trans rfl
    have r2 : W4.cell? ⟨w.heap.size, 2, none⟩ = some (.slice none 0 0) := (blk_cell J6.out 2).trans rfl
    have q0 := blk_frozen J6.out 0
    have q1 := blk_frozen J6.out 1
    have q2 := blk_frozen J6.out 2
    have HI := Aside0.mk (show (Try.prog.info? 47).map (·.size) = some 3 by kernel_rfl)
    go_wp2
    have K6 := Aside0.mk (blk_set (blk_set (blk_set J6.out 0 (.int .i64 (s.num : Int))) 1 (.int .i64 (s.off : Int))) 2 (.slice Av T.length cv))
    have K2 := Aside0.mk (blk_far (blk_far (blk_far J2.out (p := ⟨w.heap.size, 0, none⟩) HGR.out.symm (.int .i64 (s.num : Int))) (p := ⟨w.heap.size, 1, none⟩) HGR.out.symm (.int .i64 (s.off : Int))) (p := ⟨w.heap.size, 2, none⟩) HGR.out.symm (.slice Av T.length cv))
    have KK := Aside0.mk (Kept.setCell (p := ⟨w.heap.size, 2, none⟩) (Kept.setCell (p := ⟨w.heap.size, 1, none⟩) (Kept.setCell (p := ⟨w.heap.size, 0, none⟩) (Kept.mono JK.out (S' := fun k => k = gs ∨ k = w.heap.size) (fun k hk => Or.inl hk)) (Or.inl (Or.inr rfl)) (.int .i64 (s.num : Int))) (Or.inl (Or.inr rfl)) (.int .i64 (s.off : Int))) (Or.inl (Or.inr rfl)) (.slice Av T.length cv))
    have KB := Aside0.mk (Below.setCell (p := ⟨w.heap.size, 2, none⟩) (Below.setCell (p := ⟨w.heap.size, 1, none⟩) (Below.setCell (p := ⟨w.heap.size, 0, none⟩) JB.out HBW.out (.int .i64 (s.num : Int))) HBW.out (.int .i64 (s.off : Int))) HBW.out (.slice Av T.length cv))
    clear l0 l1 l2 r0 r1 r2 q0 q1 q2 J1 J2 J6 JK JB
    generalize ((W4.setCell ⟨w.heap.size, 0, none⟩ (.int .i64 (s.num : Int))).setCell ⟨w.heap.size, 1, none⟩ (.int .i64 (s.off : Int))).setCell ⟨w.heap.size, 2, none⟩ (.slice Av T.length cv) = W5 at K6 K2 KK KB ⊢
    refine bodyPost_ret (results_single rfl (Vals.cell w.heap.size 47 #[.int .i64 (s.num : Int), .int .i64 (s.off : Int), .slice Av T.length cv] (0, 0) _ rfl K6.out Try.underlying47 rfl HI.out Vals.nil)) rfl ?_
    exact line_post2 HS.out HBW.out HT.out HST.out G2.out G3.out G4.out GK.out K2.out KK.out KB.out HA2.out HA3.out
end Go.Proofs.Ytgiaabgmnjaefaa.Str
