/- End: the line that did not end. -/
import Derived.Test.YtgiaabgmnjaefaaStrE
section
namespace Go.Proofs.Ytgiaabgmnjaefaa.Str
open Go Go.RowKit Go.Proofs Go.Proofs.Ytgiaabgmnjaefaa.Met Go.Proofs.Ytgiaabgmnjaefaa.Win Go.Proofs.YtgiaabgmnjaefaaW.PrintWords Go.Proofs.YtgiaabgmnjaefaaW.PrintMore
set_option linter.unusedVariables false
set_option linter.unusedSimpArgs false
attribute [local go_sem] max2_int min2_int max_two min_two max_three min_three
/-- a row of one line -/
theorem one_R (W : World) (base : Nat) (ok okp : Nat → Prop) (x : Ln) {Av : Option Addr} {cv : Nat} (g2 : Kd.R (Kd.int .u8) 5 W base okp (.slice Av x.2.2.length cv) x.2.2) (hok : ∀ k, okp k → ok k) (hfresh : ok W.heap.size) (hbase : base ≤ W.heap.size) :
    Kd.R kL 47 (W.alloc (.cells #[.int .i64 x.1, .int .i64 x.2.1, .slice Av x.2.2.length cv] 47)) base ok (.slice (some ⟨W.heap.size, 0, none⟩) 1 1) [x] := by
  have hM := kL_mkM W base okp x g2
  have hrep : Reps (kL.M W base okp) kL.sz [x] [.int .i64 x.1, .int .i64 x.2.1, .slice Av x.2.2.length cv] := by
    have := (Reps.none (kL.M W base okp) kL.sz).snoc hM rfl
    simpa using this
  refine ⟨fun k hk => ?_, [.int .i64 x.1, .int .i64 x.2.1, .slice Av x.2.2.length cv], ?_, ?_⟩
  · have : W.heap.size = k := by simpa [Value.ownBlock] using hk
    subst this
    exact hfresh
  · have h2 := World.ownsRow_lit (base := base) (e := 47) (size := kL.sz) W #[.int .i64 x.1, .int .i64 x.2.1, .slice Av x.2.2.length cv] 1 hbase (by decide) rfl
    exact h2
  · refine hrep.imp_ (fun p c hp => kL.M_mono (fun k hk => ⟨hok k hk.1, fun he => ?_⟩) (Kd.M_below (kL.M_bound hp) (below_alloc (Below.refl _ _) _)))
    have h3 : k = W.heap.size := by simpa [Value.ownBlock] using he
    have := hk.2.2.1
    omega
def overS (s : SS) : SS := { s with over := true }
/-- what a stream does at its end -/
def endS (s : SS) : SS × List Ln :=
  if s.over = true then (s, []) else if s.st.held.length = 0 then (overS s, []) else (lineS (overS s) [], [lnOf s []])
set_option maxHeartbeats 16000000 in
set_option maxRecDepth 100000 in
theorem end_none (w : World) : Calls Try.prog 17 #[.pointer none] w fun e w' => e = .returned (.slice none 0 0) ∧ Below w.heap.size w w' := by
  go_enter Try.func17, Try.ntmps17
  go_wp2
  go_ret
  exact ⟨rfl, Below.refl _ _⟩
set_option maxHeartbeats 16000000 in
set_option maxRecDepth 100000 in
theorem end_calls {w : World} {B gs gw : Nat} {M : Option Nat} {A : Option Addr} {s : SS} (h : StrAt w B gs gw M A s) (hs : Sml s) (hB : B ≤ w.heap.size) :
    Calls Try.prog 17 #[.pointer (some ⟨gs, 0, none⟩)] w fun e w' => ∃ v A', e = .returned v ∧ Kd.R kL 47 w' w.heap.size (fun k => ¬ Foot gs gw M A' k) v (endS s).2 ∧ Lined w w' B gs gw M A A' s (endS s).1 := by
  have k5 : w.cell? ⟨gs, 5, none⟩ = some (.bool s.over) := (blk_cell h.box 5).trans rfl
  have k1 : w.cell? ⟨gs, 1, none⟩ = some (.pointer (some ⟨gw, 0, none⟩)) := (blk_cell h.box 1).trans rfl
  have f5 := blk_frozen h.box 5
  have HS := Aside0.mk h
  have HM := Aside0.mk hs
  have HBW := Aside0.mk hB
  have hu := Try.underlying70
  clear h hs hB
  by_cases hov : s.over = true
  · rw [hov] at k5
    have he : endS s = (s, []) := if_pos hov
    rw [he]
    clear hov he
    go_enter Try.func17, Try.ntmps17
    go_wp2
    go_ret
    exact ⟨_, A, rfl, Kd.R_nil _ _ _ _ _, HS.out, Kept.refl _ _, Below.refl _ _, fun ad e => Or.inl e⟩
  · have hof : s.over = false := by cases hq : s.over <;> simp_all
    rw [hof] at k5
    have HE := Aside0.mk (show endS s = if s.st.held.length = 0 then (overS s, []) else (lineS (overS s) [], [lnOf s []]) from if_neg hov)
    have T1 := Aside0.mk (blk_set HS.out.box 5 (.bool true))
    have T2 := Aside0.mk (Kept.setCell (S := fun k => k = gs) (p := ⟨gs, 5, none⟩) (Kept.refl w _) (Or.inl rfl) (.bool true))
    have T3 := Aside0.mk (Below.setCell (p := ⟨gs, 5, none⟩) (Below.refl B w) HS.out.low.1 (.bool true))
    have T4 := Aside0.mk (show StrAt (w.setCell ⟨gs, 5, none⟩ (.bool true)) B gs gw M A (overS s) from ⟨T1.out, HS.out.win.kept T2.out (fun e => HS.out.ne.1 e.symm) (fun k hk e => HS.out.ne.2.1 (by rw [hk, e])) (fun ad e e2 => HS.out.ne.2.2 ad e e2), HS.out.ne, HS.out.low⟩)
    have T5 := Aside0.mk (show Lined w (w.setCell ⟨gs, 5, none⟩ (.bool true)) B gs gw M A A s (overS s) from ⟨T4.out, Kept.mono T2.out (fun k hk => Or.inl hk), T3.out, fun ad e => Or.inl e⟩)
    have TW := Aside0.mk (show Win (w.setCell ⟨gs, 5, none⟩ (.bool true)) gw M (s.hunt : Int) A s.st from T4.out.win)
    have c1 : (w.setCell ⟨gs, 5, none⟩ (.bool true)).cell? ⟨gs, 1, none⟩ = some (.pointer (some ⟨gw, 0, none⟩)) := (blk_cell T1.out 1).trans rfl
    clear hov hof T1 T2 T3
    go_enter Try.func17, Try.ntmps17
    go_wp2_with fail
    refine (win_len TW.out).mono ?_
    rintro e w2 ⟨rfl, hb⟩
    have U1 := Aside0.mk (T4.out.below hb)
    have U2 := Aside0.mk (show Lined w w2 B gs gw M A A s (overS s) from ⟨U1.out, Kept.below T5.out.kept hb, Below.trans T5.out.bel (hb.mono (Nat.le_trans HBW.out T5.out.kept.1)), T5.out.mov⟩)
    clear hb c1 k5 k1 f5 TW T4 T5
    by_cases hl : s.st.held.length = 0
    · have c0 : ((s.st.held.length : Int) == 0) = true := by rw [hl]; rfl
      have he := HE.out
      rw [if_pos hl] at he
      have HEE := Aside0.mk he
      clear he hl
      go_wp2
      go_ret
      rw [HEE.out]
      exact ⟨_, A, rfl, Kd.R_nil _ _ _ _ _, U2.out⟩
    · have c0 : ((s.st.held.length : Int) == 0) = false := by simpa using hl
      have he := HE.out
      rw [if_neg hl] at he
      have HEE := Aside0.mk he
      clear he hl
      go_wp2_with fail
      refine (line_calls U1.out ⟨HM.out.room, HM.out.mv, HM.out.num, HM.out.off, HM.out.hunt⟩ none 0 0 [] (Kd.C_nil _ _) rfl (Nat.zero_le _) (by decide) (Nat.le_trans HBW.out U2.out.kept.1) (fun hp => absurd hp (by decide))).mono ?_
      rintro e w3 ⟨Av, cv, A', rfl, hr, hl⟩
      obtain ⟨T, hT⟩ : ∃ T, T = (overS s).st.held ++ [] := ⟨_, rfl⟩
      rw [← hT] at hr ⊢
      have HT := Aside0.mk hT
      have V1 := Aside0.mk (U2.out.trans hl)
      have V3 := Aside0.mk (foot_lt U1.out)
      have V2 := Aside0.mk (show Kd.R (Kd.int .u8) 5 w3 w.heap.size (fun k => ¬ Foot gs gw M A' k) (.slice Av T.length cv) T from Kd.R_lower (Kd.R_mono hr (fun k hk hf => by
        rcases hf with e | e | e | ⟨ad, e, e2⟩
        · have := V3.out k (Or.inl e); have := hk.1; omega
        · have := V3.out k (Or.inr (Or.inl e)); have := hk.1; omega
        · have := V3.out k (Or.inr (Or.inr (Or.inl e))); have := hk.1; omega
        · exact hk.2 ad e e2)) U2.out.kept.1)
      have V4 := Aside0.mk (foot_lt V1.out.str)
      have V5 := Aside0.mk (one_R w3 w.heap.size (fun k => ¬ Foot gs gw M A' k) (fun k => ¬ Foot gs gw M A' k) ((s.num : Int), (s.off : Int), T) V2.out (fun _ h => h) (fun hf => by have := V4.out _ hf; omega) V1.out.kept.1)
      clear hr hl hT
      go_wp2
      go_ret
      rw [HEE.out]
      have hb := below_alloc (Below.refl w3.heap.size w3) (.cells #[.int .i64 (s.num : Int), .int .i64 (s.off : Int), .slice Av T.length cv] 47)
      refine ⟨_, A', rfl, ?_, ⟨V1.out.str.below hb, Kept.below V1.out.kept hb, Below.trans V1.out.bel (hb.mono (Nat.le_trans HBW.out V1.out.kept.1)), V1.out.mov⟩⟩
      have := V5.out
      rw [show lnOf s [] = ((s.num : Int), (s.off : Int), T) by unfold lnOf; rw [HT.out]; rfl]
      exact this
end Go.Proofs.Ytgiaabgmnjaefaa.Str
end
/- Helpers of the laws: few, all. -/
section
namespace Go.Proofs.Ytgiaabgmnjaefaa.Str
open Go Go.RowKit Go.Proofs Go.Proofs.Ytgiaabgmnjaefaa.Met Go.Proofs.Ytgiaabgmnjaefaa.Win Go.Proofs.YtgiaabgmnjaefaaW.PrintWords Go.Proofs.YtgiaabgmnjaefaaW.PrintMore
set_option linter.unusedVariables false
set_option linter.unusedSimpArgs false
attribute [local go_sem] max2_int min2_int max_two min_two max_three min_three
abbrev kB : Kd (List Int) := Kd.slice 5 (Kd.int .u8)
theorem row_at {w : World} {A : Option Addr} {L : List (List Int)} (h : Kd.C kB w A L.length L) (i : Nat) (hi : i < L.length) : ∃ ad Ab cb, A = some ad ∧ w.cell? (ad.add i) = some (.slice Ab L[i].length cb) ∧ L[i].length ≤ cb ∧ Kd.C (Kd.int .u8) w Ab L[i].length L[i] := by
  obtain ⟨ad, e, hc⟩ := h.2.2 (by omega)
  obtain ⟨c, hs, hr, hcell⟩ := hc i L[i] (List.getElem?_eq_getElem hi)
  obtain ⟨Ab, cb, rfl, hl, hr⟩ := hr
  refine ⟨ad, Ab, cb, e, ?_, hl, hr⟩
  have := hcell 0 _ rfl
  simpa [kB, Kd.slice] using this
def tot : List (List Int) → Nat
  | [] => 0
  | x :: L => x.length + tot L
theorem tot_app : ∀ a b : List (List Int), tot (a ++ b) = tot a + tot b
  | [], b => by simp [tot]
  | x :: a, b => by simp only [List.cons_append, tot, tot_app a b]; omega
theorem tot_take (L : List (List Int)) (n : Nat) (h : n < L.length) : tot (L.take (n + 1)) = tot (L.take n) + L[n].length := by
  rw [List.take_succ_eq_append_getElem h, tot_app]; simp [tot]
theorem tot_take_le (L : List (List Int)) (n : Nat) : tot (L.take n) ≤ tot L := by
  have h := tot_app (L.take n) (L.drop n)
  rw [List.take_append_drop] at h
  omega
theorem wr_in {x : Int} (h0 : -1000000000000 ≤ x) (h1 : x ≤ 1000000000000) : IntKind.i64.wrap x = x := IntWalk.i64_in _ (by omega)
theorem wr_big {x : Int} (h0 : -9223372036854775808 ≤ x) (h1 : x ≤ 9223372036854775807) : wrap64 x = x := by unfold wrap64; omega
/-- what few answers -/
def FewV (L : List (List Int)) (w w' : World) (v : Value) : Prop := ∃ r, v = .bool r ∧ Below w.heap.size w w' ∧ (r = true → tot L ≤ 1500 ∧ L.length ≤ 200)
theorem C_len {α : Type} {d : Kd α} {w : World} {A : Option Addr} {n : Nat} {l : List α} (h : Kd.C d w A n l) : n ≤ 9223372036854775807 := h.2.1
set_option maxHeartbeats 8000000 in
set_option maxRecDepth 100000 in
theorem few_calls (w : World) (A : Option Addr) (c : Nat) (L : List (List Int)) (hr : Kd.C kB w A L.length L) (hc : L.length ≤ c) :
    Calls Try.prog 11 #[.slice A L.length c] w fun e w' => ∃ v, e = .returned v ∧ FewV L w w' v := by
  have HR := Aside0.mk hr
  have HC := Aside0.mk hc
  have HL := Aside0.mk (C_len hr)
  clear hr hc
  go_enter Try.func11, Try.ntmps11
  go_wp2
  go_loopw [3, 4] (fun v3 v4 wr => ∃ (n : Nat), v3 = .int .i64 (tot (L.take n) : Int) ∧ v4 = .int .i64 (n : Int) ∧ Aside0 (n ≤ L.length ∧ tot (L.take n) ≤ 1500) ∧ Aside0 (Below w.heap.size w wr)) (fun _ v _ => L.length - (intOf v).toNat)
  case atStart => exact ⟨0, by simp [tot], rfl, ⟨Nat.zero_le _, by simp [tot]⟩, ⟨Below.refl _ _⟩⟩
  case round =>
    obtain ⟨n, rfl, rfl, HN, HB⟩ := hrel
    by_cases hlt : n < L.length
    · have e1 : decide ((n : Int) < (L.length : Int)) = true := decide_eq_true (by omega)
      have e2 : decide (n < L.length) = true := decide_eq_true hlt
      have HI := Aside0.mk hlt
      obtain ⟨ad, Ab, cb, rfl, hcell, hcb, hC⟩ := row_at (Kd.C_below HR.out HB.out) n hlt
      have HT := Aside0.mk (tot_take L n hlt)
      have HLB := Aside0.mk (C_len hC)
      generalize tot (L.take n) = T0 at HT HN ⊢
      obtain ⟨m, hm⟩ : ∃ m, m = (L[n]'hlt).length := ⟨_, rfl⟩
      rw [← hm] at hcell HT HLB
      clear hlt hcb hC hm
      have p0 : 0 ≤ (n : Int) := by omega
      have p1 : (n : Int) < (L.length : Int) := by have := HI.out; omega
      by_cases h1 : (m : Int) > 1000
      · have e3 : decide ((m : Int) > 1000) = true := decide_eq_true h1
        have e3b : decide (1000 < m) = true := decide_eq_true (by omega)
        go_wp2
        go_ret
        exact ⟨_, rfl, false, rfl, HB.out, fun h => by cases h⟩
      · have e3 : decide ((m : Int) > 1000) = false := decide_eq_false h1
        have e3b : decide (1000 < m) = false := decide_eq_false (by omega)
        have hw : wrap64 ((T0 : Int) + (m : Int)) = ((T0 + m : Nat) : Int) := wr9 (by omega) (by have := HN.out; omega)
        have hw2 : wrap64 ((n : Int) + 1) = ((n + 1 : Nat) : Int) := wr_big (by omega) (by have := HI.out; have := HL.out; omega)
        by_cases h2 : ((T0 + m : Nat) : Int) > 1500
        · have e4 : decide (((T0 + m : Nat) : Int) > 1500) = true := decide_eq_true h2
          have e4b : decide (1500 < T0 + m) = true := decide_eq_true (by omega)
          go_wp2
          go_ret
          exact ⟨_, rfl, false, rfl, HB.out, fun h => by cases h⟩
        · have e4 : decide (((T0 + m : Nat) : Int) > 1500) = false := decide_eq_false h2
          have e4b : decide (1500 < T0 + m) = false := decide_eq_false (by omega)
          go_wp2
          go_roundw
          case rel => exact ⟨n + 1, by rw [HT.out]; first | rfl | exact congrArg (Value.int .i64) hw, by first | exact congrArg (Value.int .i64) hw2 | rfl, ⟨by have := HI.out; omega, by rw [HT.out]; omega⟩, HB⟩
          case measure => exact ms_step HI.out (by first | exact hw2 | simp)
    · have e1 : decide ((n : Int) < (L.length : Int)) = false := decide_eq_false (by omega)
      have e2 : decide (n < L.length) = false := decide_eq_false hlt
      have hn : n = L.length := by have := HN.out; omega
      have HX := Aside0.mk (show tot L ≤ 1500 by have := HN.out.2; rw [hn, List.take_length] at this; exact this)
      clear hn hlt
      go_wp2
      go_ret
      exact ⟨_, rfl, _, rfl, HB.out, fun h => ⟨HX.out, by have := of_decide_eq_true h; omega⟩⟩
theorem flat_take (L : List (List Int)) (n : Nat) (h : n < L.length) : (L.take (n + 1)).flatten = (L.take n).flatten ++ L[n] := by
  rw [List.take_succ_eq_append_getElem h, List.flatten_append]; simp
theorem flat_len : ∀ L : List (List Int), L.flatten.length = tot L
  | [] => rfl
  | x :: L => by rw [List.flatten_cons, List.length_append, flat_len L]; rfl
set_option maxHeartbeats 8000000 in
set_option maxRecDepth 100000 in
theorem all_calls (w : World) (A : Option Addr) (c : Nat) (L : List (List Int)) (hr : Kd.C kB w A L.length L) (hc : L.length ≤ c) (ht : tot L ≤ 1500) (hl : L.length ≤ 200) :
    Calls Try.prog 21 #[.slice A L.length c] w fun e w' => ∃ v, e = .returned v ∧ Kd.R (Kd.int .u8) 5 w' w.heap.size (fun _ => True) v L.flatten ∧ Below w.heap.size w w' := by
  have HR := Aside0.mk hr
  have HC := Aside0.mk hc
  have HL := Aside0.mk hl
  have HT := Aside0.mk ht
  clear hr hc hl ht
  go_enter Try.func21, Try.ntmps21
  go_wp2
  go_loopw [3, 4] (fun v3 v4 wr => ∃ (n : Nat), v4 = .int .i64 (n : Int) ∧ Aside0 (Kd.R (Kd.int .u8) 5 wr w.heap.size (fun _ => True) v3 (L.take n).flatten) ∧ Aside0 (n ≤ L.length) ∧ Aside0 (Below w.heap.size w wr)) (fun _ v _ => L.length - (intOf v).toNat)
  case atStart => exact ⟨0, rfl, ⟨Kd.R_nil _ _ _ _ _⟩, ⟨Nat.zero_le _⟩, ⟨Below.refl _ _⟩⟩
  case round =>
    obtain ⟨n, rfl, HO, HN, HB⟩ := hrel
    obtain ⟨A3, c3, hv3⟩ := Kd.R_slice HO.out
    subst hv3
    by_cases hlt : n < L.length
    · have e1 : decide ((n : Int) < (L.length : Int)) = true := decide_eq_true (by omega)
      have e2 : decide (n < L.length) = true := decide_eq_true hlt
      have HI := Aside0.mk hlt
      obtain ⟨ad, Ab, cb, rfl, hcell, hcb, hC⟩ := row_at (Kd.C_below HR.out HB.out) n hlt
      have HX := Aside0.mk hC
      have HF := Aside0.mk (flat_take L n hlt)
      have HFL := Aside0.mk (show ((L.take n).flatten).length ≤ 1500 ∧ (L[n]'hlt).length ≤ 1500 by have h1 := tot_take_le L n; have h2 := tot_take_le L (n + 1); have h3 := tot_take L n hlt; have := HT.out; rw [flat_len]; omega)
      generalize (L.take n).flatten = F0 at HF HO HFL ⊢
      generalize hx : (L[n]'hlt) = x at hcell HX HF HFL
      clear hlt hcb hC hx
      have p0 : 0 ≤ (n : Int) := by omega
      have p1 : (n : Int) < (L.length : Int) := by have := HI.out; omega
      have hw2 : wrap64 ((n : Int) + 1) = ((n + 1 : Nat) : Int) := wr9 (by omega) (by have := HI.out; have := HL.out; omega)
      go_wp2_with (at_builtin; refine Kd.R_append_rows (Kd.int .u8) (w0 := w) w.heap.size rfl (.tmp 11) (.tmp 15) 38 5 (.int .u8 0) 1 rfl Try.underlying38 Go.Proofs.Ytgiaabgmnjaefaa.Win.info5 rfl (by decide) (by decide) (.slice A3 F0.length c3) F0 x Ab x.length cb (fun _ => True) (fun _ => False) rfl rfl HO.out HX.out (fun _ _ h => h) (fun _ h => h.elim) (fun _ _ => trivial) HB.out HB.out.size (by have := HFL.out; omega) ?_; intro v1 w2 hr1 hb1 hg1 hat1; have HO2 := Aside0.mk hr1; have HB2 := Aside0.mk hb1; clear hr1 hb1 hg1 hat1)
      go_roundw
      case rel => exact ⟨n + 1, by first | rfl | exact congrArg (Value.int .i64) hw2, by rw [HF.out]; exact HO2, ⟨HI.out⟩, HB2⟩
      case measure => exact ms_step HI.out (by first | exact hw2 | simp)
    · have e1 : decide ((n : Int) < (L.length : Int)) = false := decide_eq_false (by omega)
      have e2 : decide (n < L.length) = false := decide_eq_false hlt
      have hn : n = L.length := by have := HN.out; omega
      have HX := Aside0.mk (show (L.take n).flatten = L.flatten by rw [hn, List.take_length])
      clear hn hlt
      go_wp2
      go_ret
      refine ⟨_, rfl, ?_, HB.out⟩
      rw [← HX.out]
      exact HO.out
end Go.Proofs.Ytgiaabgmnjaefaa.Str
end
