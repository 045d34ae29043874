/- Chunks, one behind the other. -/
import Derived.Test.YtgiaabgmnjaefaaStrG
section
namespace Go.Proofs.Ytgiaabgmnjaefaa.Str
open Go Go.RowKit Go.Proofs Go.Proofs.Ytgiaabgmnjaefaa.Met Go.Proofs.Ytgiaabgmnjaefaa.Win Go.Proofs.YtgiaabgmnjaefaaW.PrintWords Go.Proofs.YtgiaabgmnjaefaaW.PrintMore
set_option linter.unusedVariables false
set_option linter.unusedSimpArgs false
attribute [local go_sem] max2_int min2_int max_two min_two max_three min_three
def step (s : SS) (c : List Int) : SS × List Ln := if s.over = true then (s, []) else feed s [] c
def runs : SS → List (List Int) → SS × List Ln
  | s, [] => (s, [])
  | s, c :: L => ((runs (step s c).1 L).1, (step s c).2 ++ (runs (step s c).1 L).2)
def runF (s : SS) (L : List (List Int)) : SS × List Ln := ((endS (runs s L).1).1, (runs s L).2 ++ (endS (runs s L).1).2)
theorem runs_snoc : ∀ (L : List (List Int)) (s : SS) (c : List Int), runs s (L ++ [c]) = ((step (runs s L).1 c).1, (runs s L).2 ++ (step (runs s L).1 c).2)
  | [], s, c => by simp [runs]
  | x :: L, s, c => by
    rw [List.cons_append, runs, runs, runs_snoc L]
    simp
theorem runs_take (L : List (List Int)) (s : SS) (n : Nat) (h : n < L.length) : runs s (L.take (n + 1)) = ((step (runs s (L.take n)).1 L[n]).1, (runs s (L.take n)).2 ++ (step (runs s (L.take n)).1 L[n]).2) := by
  rw [List.take_succ_eq_append_getElem h, runs_snoc]
theorem feed_bd : ∀ (cs part : List Int) (s : SS) (m : Nat), Bd s m → s.st.held.length + part.length + cs.length ≤ 5000 → Bd (feed s part cs).1 (m + 2 * cs.length + 1) ∧ (feed s part cs).1.st.held.length ≤ s.st.held.length + part.length + cs.length ∧ (feed s part cs).2.length ≤ cs.length
  | [], part, s, m, h, hl => by
    rw [feed_nil]
    refine ⟨h.rest part (by simpa using hl), ?_, Nat.le_refl _⟩
    show (addS s.st part).held.length ≤ _
    rw [add_held, List.length_append]
    omega
  | c :: cs, part, s, m, h, hl => by
    rw [List.length_cons] at hl
    by_cases hc : c = 10
    · rw [feed_nl _ _ _ hc]
      have h1 := (Bd.read h).line part (show s.st.held.length + part.length ≤ 5000 by omega)
      have h2 := line_held_le (readS s) part
      have h3 : (readS s).st.held.length = s.st.held.length := rfl
      obtain ⟨q1, q2, q3⟩ := feed_bd cs [] _ _ h1 (by simp only [List.length_nil]; omega)
      refine ⟨q1.mono (by rw [List.length_cons]; omega), ?_, ?_⟩
      · simp only [List.length_nil] at q2
        rw [List.length_cons]
        show (feed (lineS (readS s) part) [] cs).1.st.held.length ≤ _
        omega
      · show (lnOf s part :: (feed (lineS (readS s) part) [] cs).2).length ≤ _
        rw [List.length_cons, List.length_cons]
        omega
    · by_cases hm : s.most ≤ (s.st.held.length : Int) + (part.length : Int)
      · rw [feed_bad _ _ _ hc hm]
        refine ⟨(Bd.bad (Bd.read h)).mono (by rw [List.length_cons]; omega), ?_, Nat.zero_le _⟩
        show s.st.held.length ≤ _
        omega
      · rw [feed_go _ _ _ hc hm]
        obtain ⟨q1, q2, q3⟩ := feed_bd cs (part ++ [c]) (readS s) (m + 1) (Bd.read h) (by rw [List.length_append]; show s.st.held.length + _ + _ ≤ _; simp only [List.length_cons, List.length_nil]; omega)
        have h3 : (readS s).st.held.length = s.st.held.length := rfl
        refine ⟨q1.mono (by rw [List.length_cons]; omega), ?_, by rw [List.length_cons]; omega⟩
        rw [List.length_append, h3] at q2
        simp only [List.length_cons, List.length_nil] at q2 ⊢
        omega
theorem step_bd (s : SS) (c : List Int) (m : Nat) (h : Bd s m) (hl : s.st.held.length + c.length ≤ 5000) : Bd (step s c).1 (m + 2 * c.length + 1) ∧ (step s c).1.st.held.length ≤ s.st.held.length + c.length ∧ (step s c).2.length ≤ c.length := by
  unfold step
  split
  · exact ⟨h.mono (by omega), Nat.le_add_right _ _, Nat.zero_le _⟩
  · have := feed_bd c [] s m h (by simpa using hl)
    simpa using this
theorem runs_bd : ∀ (L : List (List Int)) (s : SS) (m : Nat), Bd s m → s.st.held.length + tot L ≤ 5000 → Bd (runs s L).1 (m + 2 * tot L + L.length) ∧ (runs s L).1.st.held.length ≤ s.st.held.length + tot L ∧ (runs s L).2.length ≤ tot L
  | [], s, m, h, hl => ⟨h.mono (by omega), Nat.le_add_right _ _, Nat.zero_le _⟩
  | c :: L, s, m, h, hl => by
    simp only [tot] at hl
    obtain ⟨q1, q2, q3⟩ := step_bd s c m h (by omega)
    obtain ⟨r1, r2, r3⟩ := runs_bd L _ _ q1 (by omega)
    refine ⟨r1.mono (by simp only [tot, List.length_cons]; omega), ?_, ?_⟩
    · show (runs (step s c).1 L).1.st.held.length ≤ _
      simp only [tot]
      omega
    · show ((step s c).2 ++ (runs (step s c).1 L).2).length ≤ _
      rw [List.length_append]
      simp only [tot]
      omega
theorem endS_bd (s : SS) (m : Nat) (h : Bd s m) (hl : s.st.held.length ≤ 5000) : Bd (endS s).1 (m + 1) ∧ (endS s).1.st.held.length ≤ s.st.held.length ∧ (endS s).2.length ≤ 1 := by
  have ho : Bd (overS s) m := ⟨h.room, h.held, h.mv, h.num, h.off, h.hunt⟩
  unfold endS
  split
  · exact ⟨h.mono (by omega), Nat.le_refl _, Nat.zero_le _⟩
  · split
    · exact ⟨ho.mono (by omega), Nat.le_refl _, Nat.zero_le _⟩
    · exact ⟨ho.line [] (by show s.st.held.length + 0 ≤ _; omega), line_held_le (overS s) [], Nat.le_refl _⟩
/-- chunks in memory, apart from what a stream writes -/
def Src (w : World) (gs gw : Nat) (M : Option Nat) (A Al : Option Addr) (L : List (List Int)) : Prop :=
  ∀ i (hi : i < L.length), ∃ ad Ab cb, Al = some ad ∧ ¬ Foot gs gw M A ad.block ∧ w.cell? (ad.add i) = some (.slice Ab L[i].length cb) ∧ L[i].length ≤ cb ∧ Kd.C (Kd.int .u8) w Ab L[i].length L[i] ∧ (0 < L[i].length → ∀ a2, Ab = some a2 → ¬ Foot gs gw M A a2.block)
theorem cell_lt' {w : World} {p : Addr} {v : Value} (h : w.cell? p = some v) : p.block < w.heap.size := by
  rcases Nat.lt_or_ge p.block w.heap.size with h1 | h1
  · exact h1
  · simp [World.cell?, Array.getElem?_eq_none h1] at h
theorem Src.step {w w' : World} {B gs gw : Nat} {M : Option Nat} {A A' Al : Option Addr} {s s' : SS} {L : List (List Int)} (h : Src w gs gw M A Al L) (hl : Lined w w' B gs gw M A A' s s') : Src w' gs gw M A' Al L := by
  intro i hi
  obtain ⟨ad, Ab, cb, e, hf, hc, hcb, hC, hfa⟩ := h i hi
  have key : ∀ k, k < w.heap.size → ¬ Foot gs gw M A k → ¬ Foot gs gw M A' k := fun k hk hn hn' => by
    rcases hl.foot k hn' with h1 | h1
    · exact hn h1
    · omega
  have hlt := cell_lt' hc
  rw [Met.add_block] at hlt
  refine ⟨ad, Ab, cb, e, key _ hlt hf, cell_kept hc hl.kept (by rw [Met.add_block]; exact hf), hcb, chunk_C hC hl.kept hfa, fun hp a2 e2 => key _ (Met.far_of hC hp a2 e2) (hfa hp a2 e2)⟩
theorem step_calls {w : World} {B gs gw m : Nat} {M : Option Nat} {A : Option Addr} {s : SS} (h : StrAt w B gs gw M A s) (hb : Bd s m) (chunk : List Int) (hm : m + 2 * chunk.length + 2 ≤ 100000) (hh : s.st.held.length + chunk.length ≤ 4000) (Ab : Option Addr) (cb : Nat) (hsrc : Kd.C (Kd.int .u8) w Ab chunk.length chunk) (hcb : chunk.length ≤ cb) (hB : B ≤ w.heap.size) (hfar : 0 < chunk.length → ∀ ad, Ab = some ad → ¬ Foot gs gw M A ad.block) :
    Calls Try.prog 15 #[.pointer (some ⟨gs, 0, none⟩), .slice Ab chunk.length cb] w fun e w' => ∃ v A', e = .returned v ∧ Kd.R kL 47 w' w.heap.size (fun k => ¬ Foot gs gw M A' k) v (step s chunk).2 ∧ Lined w w' B gs gw M A A' s (step s chunk).1 := by
  by_cases hov : s.over = true
  · refine (feed_over h hov Ab chunk.length cb).mono ?_
    rintro e w' ⟨rfl, hb'⟩
    rw [show step s chunk = (s, []) from if_pos hov]
    exact ⟨_, A, rfl, Kd.R_nil _ _ _ _ _, h.below hb', Kept.of_below hb' _, hb'.mono hB, fun ad e => Or.inl e⟩
  · rw [show step s chunk = feed s [] chunk from if_neg hov]
    exact feed_calls h hb chunk hm hh (by cases hq : s.over <;> simp_all) Ab cb hsrc hcb hB hfar
/-- what append wants, behind a call of the stream's -/
theorem app_ready {w1 w2 : World} {B gs gw base : Nat} {M : Option Nat} {A1 A2 : Option Addr} {s1 s2 : SS} {v v2 : Value} {xs X : List Ln} (hO : Kd.R kL 47 w1 base (fun k => ¬ Foot gs gw M A1 k) v xs) (hL : Lined w1 w2 B gs gw M A1 A2 s1 s2) (hX : Kd.R kL 47 w2 w1.heap.size (fun k => ¬ Foot gs gw M A2 k) v2 X) (hb : base ≤ w1.heap.size) :
    Kd.R kL 47 w2 base (fun k => ¬ Foot gs gw M A2 k) v xs ∧ (∃ Ax cx, v2 = .slice Ax X.length cx ∧ ReadsRow (kL.M w2 base (fun k => ¬ Foot gs gw M A2 k ∧ w1.heap.size ≤ k)) kL.sz w2 Ax X.length X) ∧ (∀ k, ¬ Foot gs gw M A2 k ∧ w1.heap.size ≤ k → ¬ Foot gs gw M A2 k ∧ some k ≠ v.ownBlock) ∧ (∀ k, w2.heap.size ≤ k → ¬ Foot gs gw M A2 k) ∧ ∀ k, v.ownBlock = some k → ¬ Foot gs gw M A2 k ∧ base ≤ k := by
  have h1 : Kd.R kL 47 w2 base (fun k => ¬ Foot gs gw M A2 k ∧ k < w1.heap.size ∧ base ≤ k) v xs := Kd.R_mono (Kd.R_kept (Kd.R_bound hO) hL.kept (fun k hk hs => hk.1 hs)) (fun k hk => ⟨fun hf => by
    rcases hL.foot k hf with h1 | h1
    · exact hk.1 h1
    · have := hk.2.2.1; omega, hk.2.2.1, hk.2.1⟩)
  refine ⟨Kd.R_mono h1 (fun k hk => hk.1), ?_, fun k hk => ⟨hk.1, fun e => by have := (h1.1 k e.symm).2.1; omega⟩, fun k hk hf => by have := foot_lt hL.str k hf; omega, fun k hk => ⟨(h1.1 k hk).1, (h1.1 k hk).2.2⟩⟩
  obtain ⟨Ax, cx, e, hle, hr⟩ := OwnRow.reads hX.2
  exact ⟨Ax, cx, e, hr.imp_ (Below.refl _ _) (fun p c hp => kL.M_lower hb (kL.M_mono (fun k hk => ⟨hk.1.1, hk.2.1⟩) (kL.M_bound hp)))⟩
/-- what append leaves -/
theorem app_post {w w2 w3 : World} {B gs gw : Nat} {M : Option Nat} {A A2 : Option Addr} {s s2 : SS} {v : Value} (hL : Lined w w2 B gs gw M A A2 s s2) (hB : B ≤ w.heap.size) (hg : w2.grownBy w3 v.ownBlock) (hb : Below w.heap.size w2 w3) (ho : ∀ k, v.ownBlock = some k → ¬ Foot gs gw M A2 k ∧ w.heap.size ≤ k) : Lined w w3 B gs gw M A A2 s s2 := by
  have hk := Kept.of_grown hg (Kept.refl _ (fun k => v.ownBlock = some k)) (fun k hk => Or.inl hk)
  exact ⟨hL.str.kept hk (fun k hf e => (ho k e).1 hf), hL.kept.then_ hk (fun k e => Or.inr (ho k e).2), Below.trans hL.bel (hb.mono hB), hL.mov⟩
end Go.Proofs.Ytgiaabgmnjaefaa.Str
end
/- run: the lines of chunks. -/
section
namespace Go.Proofs.Ytgiaabgmnjaefaa.Str
open Go Go.RowKit Go.Proofs Go.Proofs.Ytgiaabgmnjaefaa.Met Go.Proofs.Ytgiaabgmnjaefaa.Win Go.Proofs.YtgiaabgmnjaefaaW.PrintWords Go.Proofs.YtgiaabgmnjaefaaW.PrintMore
set_option linter.unusedVariables false
set_option linter.unusedSimpArgs false
attribute [local go_sem] max2_int min2_int max_two min_two max_three min_three
/-- where run stands: n chunks are fed -/
structure Rn (w wr : World) (B gs gw : Nat) (M : Option Nat) (A A1 Al : Option Addr) (s : SS) (L : List (List Int)) (n : Nat) (s1 : SS) (X : List Ln) (m : Nat) (v : Value) : Prop where
  le : n ≤ L.length
  eq : runs s (L.take n) = (s1, X)
  row : Kd.R kL 47 wr w.heap.size (fun k => ¬ Foot gs gw M A1 k) v X
  lin : Lined w wr B gs gw M A A1 s s1
  src : Src wr gs gw M A1 Al L
  bd : Bd s1 (m + 2 * tot (L.take n) + n)
  held : s1.st.held.length ≤ s.st.held.length + tot (L.take n)
  few : X.length ≤ tot (L.take n)
set_option maxHeartbeats 16000000 in
set_option maxRecDepth 100000 in
theorem run_calls {w : World} {B gs gw m : Nat} {M : Option Nat} {A Al : Option Addr} {s : SS} (h : StrAt w B gs gw M A s) (hb : Bd s m) (L : List (List Int)) (c : Nat) (hsrc : Src w gs gw M A Al L) (hc : L.length ≤ c) (ht : tot L ≤ 1600) (hl : L.length ≤ 300) (hm : m ≤ 50000) (hh : s.st.held.length ≤ 2000) (hB : B ≤ w.heap.size) :
    Calls Try.prog 22 #[.pointer (some ⟨gs, 0, none⟩), .slice Al L.length c] w fun e w' => ∃ v A', e = .returned v ∧ Kd.R kL 47 w' w.heap.size (fun k => ¬ Foot gs gw M A' k) v (runF s L).2 ∧ Lined w w' B gs gw M A A' s (runF s L).1 := by
  have HB := Aside0.mk hb
  have HC := Aside0.mk hc
  have HT := Aside0.mk ht
  have HL := Aside0.mk hl
  have HM := Aside0.mk hm
  have HH := Aside0.mk hh
  have HBW := Aside0.mk hB
  have HSRC := Aside0.mk hsrc
  have H0 := Aside0.mk (show Rn w w B gs gw M A A Al s L 0 s [] m (.slice none 0 0) from ⟨Nat.zero_le _, rfl, Kd.R_nil _ _ _ _ _, ⟨h, Kept.refl _ _, Below.refl _ _, fun ad e => Or.inl e⟩, hsrc, hb, Nat.le_add_right _ _, Nat.zero_le _⟩)
  clear h hb hsrc hc ht hl hm hh hB
  go_enter Try.func22, Try.ntmps22
  go_wp2
  go_loopw [5, 6] (fun v5 v6 wr => ∃ (n : Nat) (s1 : SS) (X : List Ln) (A1 : Option Addr), v6 = .int .i64 (n : Int) ∧ Aside0 (Rn w wr B gs gw M A A1 Al s L n s1 X m v5)) (fun _ v _ => L.length - (intOf v).toNat)
  case atStart => exact ⟨0, s, [], A, rfl, H0⟩
  case round =>
    clear H0
    obtain ⟨n, s1, X, A1, rfl, HR⟩ := hrel
    obtain ⟨A5, c5, hv5⟩ := Kd.R_slice HR.out.row
    subst hv5
    have HBR := Aside0.mk (show B ≤ wr.heap.size from Nat.le_trans HBW.out HR.out.lin.kept.1)
    by_cases hlt : n < L.length
    · have e1 : decide ((n : Int) < (L.length : Int)) = true := decide_eq_true (by omega)
      have e2 : decide (n < L.length) = true := decide_eq_true hlt
      have HI := Aside0.mk hlt
      obtain ⟨ad, Ab, cb, hAl, hf, hcell, hcb, hC, hfa⟩ := HR.out.src n hlt
      subst hAl
      have HX := Aside0.mk hC
      have HCB := Aside0.mk hcb
      have HFA := Aside0.mk hfa
      have HE := Aside0.mk (runs_take L s n hlt)
      have HTT := Aside0.mk (show tot (L.take (n + 1)) = tot (L.take n) + (L[n]'hlt).length ∧ tot (L.take (n + 1)) ≤ 1600 by have h1 := tot_take_le L (n + 1); have h3 := tot_take L n hlt; have := HT.out; omega)
      rw [HR.out.eq] at HE
      generalize hx : (L[n]'hlt) = x at hcell HX HCB HFA HE HTT
      clear hlt hcb hC hx hf hfa
      have p0 : 0 ≤ (n : Int) := by omega
      have p1 : (n : Int) < (L.length : Int) := by have := HI.out; omega
      have hw2 : wrap64 ((n : Int) + 1) = ((n + 1 : Nat) : Int) := wr9 (by omega) (by have := HI.out; have := HL.out; omega)
      have HSB := Aside0.mk (step_bd s1 x _ HR.out.bd (by have := HR.out.held; have := HTT.out; have := HH.out; omega))
      go_wp2_with fail
      refine (step_calls HR.out.lin.str HR.out.bd x (by have := HI.out; have := HTT.out; have := HL.out; have := HM.out; omega) (by have := HR.out.held; have := HTT.out; have := HH.out; omega) Ab cb HX.out HCB.out HBR.out HFA.out).mono ?_
      rintro e w2 ⟨v2, A2, rfl, hr2, hl2⟩
      have HQ := Aside0.mk (app_ready HR.out.row hl2 hr2 HR.out.lin.kept.1)
      have HL2 := Aside0.mk (HR.out.lin.trans hl2)
      have HW2 := Aside0.mk hl2.kept.1
      clear hr2 hl2
      generalize hst : step s1 x = st at HQ HL2 HSB HE
      obtain ⟨s2, Y⟩ := st
      dsimp only at HQ HL2 HSB HE
      obtain ⟨Ax, cx, hv2, hrd⟩ := HQ.out.2.1
      subst hv2
      have HRD := Aside0.mk hrd
      clear hrd hst
      go_wp2_with (at_builtin; refine Kd.R_append_rows kL (w0 := w2) (W := w2) w.heap.size rfl (.tmp 13) (.tmp 19) 35 47 (.agg #[.int .i64 0, .int .i64 0, .slice none 0 0]) 40 rfl Try.underlying35 infoL rfl (by decide) (by decide) (.slice A5 X.length c5) X Y Ax Y.length cx (fun k => ¬ Foot gs gw M A2 k) (fun k => ¬ Foot gs gw M A2 k ∧ wr.heap.size ≤ k) rfl rfl HQ.out.1 HRD.out (fun _ _ h => h) HQ.out.2.2.1 HQ.out.2.2.2.1 (Below.refl _ _) (Nat.le_trans HR.out.lin.kept.1 HW2.out) (by have := HR.out.few; have := HSB.out.2.2; have := HTT.out; omega) ?_; intro v1 w3 hr1 hb1 hg1 hat1; have HR3 := Aside0.mk hr1; have HL3 := Aside0.mk (app_post HL2.out HBW.out hg1 hb1 HQ.out.2.2.2.2); have HS3 := Aside0.mk (HSRC.out.step HL3.out); clear hr1 hb1 hg1 hat1)
      go_roundw
      case rel => exact ⟨n + 1, s2, X ++ Y, A2, by first | rfl | exact congrArg (Value.int .i64) hw2, ⟨HI.out, HE.out, HR3.out, HL3.out, HS3.out, HSB.out.1.mono (by have := HTT.out; omega), by have := HSB.out.2.1; have := HR.out.held; have := HTT.out; omega, by have := HSB.out.2.2; have := HR.out.few; have := HTT.out; rw [List.length_append]; omega⟩⟩
      case measure => exact ms_step HI.out (by first | exact hw2 | simp)
    · have e1 : decide ((n : Int) < (L.length : Int)) = false := decide_eq_false (by omega)
      have e2 : decide (n < L.length) = false := decide_eq_false hlt
      have hn : n = L.length := by have := HR.out.le; omega
      have HX := Aside0.mk (show runs s L = (s1, X) by have := HR.out.eq; rw [hn, List.take_length] at this; exact this)
      have HTT := Aside0.mk (show tot (L.take n) ≤ 1600 by have := tot_take_le L n; have := HT.out; omega)
      have HNL := Aside0.mk (show n ≤ 300 by have := HL.out; omega)
      clear hn hlt
      have HSB := Aside0.mk (endS_bd s1 _ HR.out.bd (by have := HR.out.held; have := HTT.out; have := HH.out; omega))
      go_wp2_with fail
      refine (end_calls HR.out.lin.str (HR.out.bd.sml (by have := HTT.out; have := HM.out; have := HNL.out; omega)) HBR.out).mono ?_
      rintro e w2 ⟨v2, A2, rfl, hr2, hl2⟩
      have HQ := Aside0.mk (app_ready HR.out.row hl2 hr2 HR.out.lin.kept.1)
      have HL2 := Aside0.mk (HR.out.lin.trans hl2)
      have HW2 := Aside0.mk hl2.kept.1
      clear hr2 hl2
      have HE := Aside0.mk (show runF s L = ((endS s1).1, X ++ (endS s1).2) by unfold runF; rw [HX.out])
      generalize hst : endS s1 = st at HQ HL2 HSB HE
      obtain ⟨s2, Y⟩ := st
      dsimp only at HQ HL2 HSB HE
      obtain ⟨Ax, cx, hv2, hrd⟩ := HQ.out.2.1
      subst hv2
      have HRD := Aside0.mk hrd
      clear hrd hst
      go_wp2_with (at_builtin; refine Kd.R_append_rows kL (w0 := w2) (W := w2) w.heap.size rfl (.tmp 21) (.tmp 23) 35 47 (.agg #[.int .i64 0, .int .i64 0, .slice none 0 0]) 40 rfl Try.underlying35 infoL rfl (by decide) (by decide) (.slice A5 X.length c5) X Y Ax Y.length cx (fun k => ¬ Foot gs gw M A2 k) (fun k => ¬ Foot gs gw M A2 k ∧ wr.heap.size ≤ k) rfl rfl HQ.out.1 HRD.out (fun _ _ h => h) HQ.out.2.2.1 HQ.out.2.2.2.1 (Below.refl _ _) (Nat.le_trans HR.out.lin.kept.1 HW2.out) (by have := HR.out.few; have := HSB.out.2.2; have := HTT.out; omega) ?_; intro v1 w3 hr1 hb1 hg1 hat1; have HR3 := Aside0.mk hr1; have HL3 := Aside0.mk (app_post HL2.out HBW.out hg1 hb1 HQ.out.2.2.2.2); clear hr1 hb1 hg1 hat1)
      go_ret
      rw [HE.out]
      exact ⟨_, A2, rfl, HR3.out, HL3.out⟩
end Go.Proofs.Ytgiaabgmnjaefaa.Str
end
