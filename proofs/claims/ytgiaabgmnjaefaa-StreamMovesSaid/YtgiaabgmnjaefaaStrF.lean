/- End: the line that did not end. -/
import Derived.Test.YtgiaabgmnjaefaaStrE
namespace Go.Proofs.Ytgiaabgmnjaefaa.Str
open Go Go.RowKit Go.Proofs Go.Proofs.Ytgiaabgmnjaefaa.Met Go.Proofs.Ytgiaabgmnjaefaa.Win Go.Proofs.YtgiaabgmnjaefaaW.PrintWords Go.Proofs.YtgiaabgmnjaefaaW.PrintMore
set_option linter.unusedVariables false
set_option linter.unusedSimpArgs false
attribute [local go_sem] max2_int min2_int max_two min_two max_three min_three
/-- a row of one line -/
theorem one_R (W : World) (base : Nat) (ok okp : Nat → Prop) (x : Ln) {Av : Option Addr} {cv : Nat} (g2 : Kd.R (Kd.int .u8) 5 W base okp (.slice Av x.2.2.length cv) x.2.2) (hok : ∀ k, okp k → ok k) (hfresh : ok W.heap.size) (hbase : base ≤ W.heap.size) :
    Kd.R kL 47 (W.alloc (.cells #[.int .i64 x.1, .int .i64 x.2.1, .slice Av x.2.2.length cv] 47)) base ok (.slice (some ⟨W.heap.size, 0, none⟩) 1 1) [x] := by
  have hM := kL_mkM W base okp x g2
  have hrep : Reps (kL.M W base okp) kL.sz [x] [.int .i64 x.1, .int .i64 x.2.1, .slice Av x.2.2.length cv] := by
    have := (Reps.none (kL.M W base okp) kL.sz).snoc hM rfl
    simpa using this
  refine ⟨fun k hk => ?_, [.int .i64 x.1, .int .i64 x.2.1, .slice Av x.2.2.length cv], ?_, ?_⟩
  · have : W.heap.size = k := by simpa [Value.ownBlock] using hk
    subst this
    exact hfresh
  · have h2 := World.ownsRow_lit (base := base) (e := 47) (size := kL.sz) W #[.int .i64 x.1, .int .i64 x.2.1, .slice Av x.2.2.length cv] 1 hbase (by decide) rfl
    exact h2
  · refine hrep.imp_ (fun p c hp => kL.M_mono (fun k hk => ⟨hok k hk.1, fun he => ?_⟩) (Kd.M_below (kL.M_bound hp) (below_alloc (Below.refl _ _) _)))
    have h3 : k = W.heap.size := by simpa [Value.ownBlock] using he
    have := hk.2.2.1
    omega
def overS (s : SS) : SS := { s with over := true }
/-- what a stream does at its end -/
def endS (s : SS) : SS × List Ln :=
  if s.over = true then (s, []) else if s.st.held.length = 0 then (overS s, []) else (lineS (overS s) [], [lnOf s []])
set_option maxHeartbeats 16000000 in
set_option maxRecDepth 100000 in
theorem end_none (w : World) : Calls Try.prog 17 #[.pointer none] w fun e w' => e = .returned (.slice none 0 0) ∧ Below w.heap.size w w' := by
  go_enter Try.func17, Try.ntmps17
  go_wp2
  go_ret
  exact ⟨rfl, Below.refl _ _⟩
set_option maxHeartbeats 16000000 in
set_option maxRecDepth 100000 in
theorem end_calls {w : World} {B gs gw : Nat} {M : Option Nat} {A : Option Addr} {s : SS} (h : StrAt w B gs gw M A s) (hs : Sml s) (hB : B ≤ w.heap.size) :
    Calls Try.prog 17 #[.pointer (some ⟨gs, 0, none⟩)] w fun e w' => ∃ v A', e = .returned v ∧ Kd.R kL 47 w' w.heap.size (fun k => ¬ Foot gs gw M A' k) v (endS s).2 ∧ Lined w w' B gs gw M A A' s (endS s).1 := by
  have k5 : w.cell? ⟨gs, 5, none⟩ = some (.bool s.over) := (blk_cell h.box 5).trans rfl
  have k1 : w.cell? ⟨gs, 1, none⟩ = some (.pointer (some ⟨gw, 0, none⟩)) := (blk_cell h.box 1).trans rfl
  have f5 := blk_frozen h.box 5
  have HS := Aside0.mk h
  have HM := Aside0.mk hs
  have HBW := Aside0.mk hB
  have hu := Try.underlying70
  clear h hs hB
  by_cases hov : s.over = true
  · rw [hov] at k5
    have he : endS s = (s, []) := if_pos hov
    rw [he]
    clear hov he
    go_enter Try.func17, Try.ntmps17
    go_wp2
    go_ret
    exact ⟨_, A, rfl, Kd.R_nil _ _ _ _ _, HS.out, Kept.refl _ _, Below.refl _ _, fun ad e => Or.inl e⟩
  · have hof : s.over = false := by cases hq : s.over <;> simp_all
    rw [hof] at k5
    have HE := Aside0.mk (show endS s = if s.st.held.length = 0 then (overS s, []) else (lineS (overS s) [], [lnOf s []]) from if_neg hov)
    have T1 := Aside0.mk (blk_set HS.out.box 5 (.bool true))
    have T2 := Aside0.mk (Kept.setCell (S := fun k => k = gs) (p := ⟨gs, 5, none⟩) (Kept.refl w _) (Or.inl rfl) (.bool true))
    have T3 := Aside0.mk (Below.setCell (p := ⟨gs, 5, none⟩) (Below.refl B w) HS.out.low.1 (.bool true))
    have T4 := Aside0.mk (show StrAt (w.setCell ⟨gs, 5, none⟩ (.bool true)) B gs gw M A (overS s) from ⟨T1.out, HS.out.win.kept T2.out (fun e => HS.out.ne.1 e.symm) (fun k hk e => HS.out.ne.2.1 (by rw [hk, e])) (fun ad e e2 => HS.out.ne.2.2 ad e e2), HS.out.ne, HS.out.low⟩)
    have T5 := Aside0.mk (show Lined w (w.setCell ⟨gs, 5, none⟩ (.bool true)) B gs gw M A A s (overS s) from ⟨T4.out, Kept.mono T2.out (fun k hk => Or.inl hk), T3.out, fun ad e => Or.inl e⟩)
    have TW := Aside0.mk (show Win (w.setCell ⟨gs, 5, none⟩ (.bool true)) gw M (s.hunt : Int) A s.st from T4.out.win)
    have c1 : (w.setCell ⟨gs, 5, none⟩ (.bool true)).cell? ⟨gs, 1, none⟩ = some (.pointer (some ⟨gw, 0, none⟩)) := (blk_cell T1.out 1).trans rfl
    clear hov hof T1 T2 T3
    go_enter Try.func17, Try.ntmps17
    go_wp2_with fail
    refine (win_len TW.out).mono ?_
    rintro e w2 ⟨rfl, hb⟩
    have U1 := Aside0.mk (T4.out.below hb)
    have U2 := Aside0.mk (show Lined w w2 B gs gw M A A s (overS s) from ⟨U1.out, Kept.below T5.out.kept hb, Below.trans T5.out.bel (hb.mono (Nat.le_trans HBW.out T5.out.kept.1)), T5.out.mov⟩)
    clear hb c1 k5 k1 f5 TW T4 T5
    by_cases hl : s.st.held.length = 0
    · have c0 : ((s.st.held.length : Int) == 0) = true := by rw [hl]; rfl
      have he := HE.out
      rw [if_pos hl] at he
      have HEE := Aside0.mk he
      clear he hl
      go_wp2
      go_ret
      rw [HEE.out]
      exact ⟨_, A, rfl, Kd.R_nil _ _ _ _ _, U2.out⟩
    · have c0 : ((s.st.held.length : Int) == 0) = false := by simpa using hl
      have he := HE.out
      rw [if_neg hl] at he
      have HEE := Aside0.mk he
      clear he hl
      go_wp2_with fail
      refine (line_calls U1.out ⟨HM.out.room, HM.out.mv, HM.out.num, HM.out.off, HM.out.hunt⟩ none 0 0 [] (Kd.C_nil _ _) rfl (Nat.zero_le _) (by decide) (Nat.le_trans HBW.out U2.out.kept.1) (fun hp => absurd hp (by decide))).mono ?_
      rintro e w3 ⟨Av, cv, A', rfl, hr, hl⟩
      obtain ⟨T, hT⟩ : ∃ T, T = (overS s).st.held ++ [] := ⟨_, rfl⟩
      rw [← hT] at hr ⊢
      have HT := Aside0.mk hT
      have V1 := Aside0.mk (U2.out.trans hl)
      have V3 := Aside0.mk (foot_lt U1.out)
      have V2 := Aside0.mk (show Kd.R (Kd.int .u8) 5 w3 w.heap.size (fun k => ¬ Foot gs gw M A' k) (.slice Av T.length cv) T from Kd.R_lower (Kd.R_mono hr (fun k hk hf => by
        rcases hf with e | e | e | ⟨ad, e, e2⟩
        · have := V3.out k (Or.inl e); have := hk.1; omega
        · have := V3.out k (Or.inr (Or.inl e)); have := hk.1; omega
        · have := V3.out k (Or.inr (Or.inr (Or.inl e))); have := hk.1; omega
        · exact hk.2 ad e e2)) U2.out.kept.1)
      have V4 := Aside0.mk (foot_lt V1.out.str)
      have V5 := Aside0.mk (one_R w3 w.heap.size (fun k => ¬ Foot gs gw M A' k) (fun k => ¬ Foot gs gw M A' k) ((s.num : Int), (s.off : Int), T) V2.out (fun _ h => h) (fun hf => by have := V4.out _ hf; omega) V1.out.kept.1)
      clear hr hl hT
      go_wp2
      go_ret
      rw [HEE.out]
      have hb := below_alloc (Below.refl w3.heap.size w3) (.cells #[.int .i64 (s.num : Int), .int .i64 (s.off : Int), .slice Av T.length cv] 47)
      refine ⟨_, A', rfl, ?_, ⟨V1.out.str.below hb, Kept.below V1.out.kept hb, Below.trans V1.out.bel (hb.mono (Nat.le_trans HBW.out V1.out.kept.1)), V1.out.mov⟩⟩
      have := V5.out
      rw [show lnOf s [] = ((s.num : Int), (s.off : Int), T) by unfold lnOf; rw [HT.out]; rfl]
      exact this
end Go.Proofs.Ytgiaabgmnjaefaa.Str
