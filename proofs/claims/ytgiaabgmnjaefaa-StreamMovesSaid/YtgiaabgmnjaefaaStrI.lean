/- run: the lines of chunks. -/
import Derived.Test.YtgiaabgmnjaefaaStrH
namespace Go.Proofs.Ytgiaabgmnjaefaa.Str
open Go Go.RowKit Go.Proofs Go.Proofs.Ytgiaabgmnjaefaa.Met Go.Proofs.Ytgiaabgmnjaefaa.Win Go.Proofs.YtgiaabgmnjaefaaW.PrintWords Go.Proofs.YtgiaabgmnjaefaaW.PrintMore
set_option linter.unusedVariables false
set_option linter.unusedSimpArgs false
attribute [local go_sem] max2_int min2_int max_two min_two max_three min_three
/-- where run stands: n chunks are fed -/
structure Rn (w wr : World) (B gs gw : Nat) (M : Option Nat) (A A1 Al : Option Addr) (s : SS) (L : List (List Int)) (n : Nat) (s1 : SS) (X : List Ln) (m : Nat) (v : Value) : Prop where
  le : n ≤ L.length
  eq : runs s (L.take n) = (s1, X)
  row : Kd.R kL 47 wr w.heap.size (fun k => ¬ Foot gs gw M A1 k) v X
  lin : Lined w wr B gs gw M A A1 s s1
  src : Src wr gs gw M A1 Al L
  bd : Bd s1 (m + 2 * tot (L.take n) + n)
  held : s1.st.held.length ≤ s.st.held.length + tot (L.take n)
  few : X.length ≤ tot (L.take n)
set_option maxHeartbeats 16000000 in
set_option maxRecDepth 100000 in
theorem run_calls {w : World} {B gs gw m : Nat} {M : Option Nat} {A Al : Option Addr} {s : SS} (h : StrAt w B gs gw M A s) (hb : Bd s m) (L : List (List Int)) (c : Nat) (hsrc : Src w gs gw M A Al L) (hc : L.length ≤ c) (ht : tot L ≤ 1600) (hl : L.length ≤ 300) (hm : m ≤ 50000) (hh : s.st.held.length ≤ 2000) (hB : B ≤ w.heap.size) :
    Calls Try.prog 22 #[.pointer (some ⟨gs, 0, none⟩), .slice Al L.length c] w fun e w' => ∃ v A', e = .returned v ∧ Kd.R kL 47 w' w.heap.size (fun k => ¬ Foot gs gw M A' k) v (runF s L).2 ∧ Lined w w' B gs gw M A A' s (runF s L).1 := by
  have HB := Aside0.mk hb
  have HC := Aside0.mk hc
  have HT := Aside0.mk ht
  have HL := Aside0.mk hl
  have HM := Aside0.mk hm
  have HH := Aside0.mk hh
  have HBW := Aside0.mk hB
  have HSRC := Aside0.mk hsrc
  have H0 := Aside0.mk (show Rn w w B gs gw M A A Al s L 0 s [] m (.slice none 0 0) from ⟨Nat.zero_le _, rfl, Kd.R_nil _ _ _ _ _, ⟨h, Kept.refl _ _, Below.refl _ _, fun ad e => Or.inl e⟩, hsrc, hb, Nat.le_add_right _ _, Nat.zero_le _⟩)
  clear h hb hsrc hc ht hl hm hh hB
  go_enter Try.func22, Try.ntmps22
  go_wp2
  go_loopw [5, 6] (fun v5 v6 wr => ∃ (n : Nat) (s1 : SS) (X : List Ln) (A1 : Option Addr), v6 = .int .i64 (n : Int) ∧ Aside0 (Rn w wr B gs gw M A A1 Al s L n s1 X m v5)) (fun _ v _ => L.length - (intOf v).toNat)
  case atStart => exact ⟨0, s, [], A, rfl, H0⟩
  case round =>
    clear H0
    obtain ⟨n, s1, X, A1, rfl, HR⟩ := hrel
    obtain ⟨A5, c5, hv5⟩ := Kd.R_slice HR.out.row
    subst hv5
    have HBR := Aside0.mk (show B ≤ wr.heap.size from Nat.le_trans HBW.out HR.out.lin.kept.1)
    by_cases hlt : n < L.length
    · have e1 : decide ((n : Int) < (L.length : Int)) = true := decide_eq_true (by omega)
      have e2 : decide (n < L.length) = true := decide_eq_true hlt
      have HI := Aside0.mk hlt
      obtain ⟨ad, Ab, cb, hAl, hf, hcell, hcb, hC, hfa⟩ := HR.out.src n hlt
      subst hAl
      have HX := Aside0.mk hC
      have HCB := Aside0.mk hcb
      have HFA := Aside0.mk hfa
      have HE := Aside0.mk (runs_take L s n hlt)
      have HTT := Aside0.mk (show tot (L.take (n + 1)) = tot (L.take n) + (L[n]'hlt).length ∧ tot (L.take (n + 1)) ≤ 1600 by have h1 := tot_take_le L (n + 1); have h3 := tot_take L n hlt; have := HT.out; omega)
      rw [HR.out.eq] at HE
      generalize hx : (L[n]'hlt) = x at hcell HX HCB HFA HE HTT
      clear hlt hcb hC hx hf hfa
      have p0 : 0 ≤ (n : Int) := by omega
      have p1 : (n : Int) < (L.length : Int) := by have := HI.out; omega
      have hw2 : wrap64 ((n : Int) + 1) = ((n + 1 : Nat) : Int) := wr9 (by omega) (by have := HI.out; have := HL.out; omega)
      have HSB := Aside0.mk (step_bd s1 x _ HR.out.bd (by have := HR.out.held; have := HTT.out; have := HH.out; omega))
      go_wp2_with fail
      refine (step_calls HR.out.lin.str HR.out.bd x (by have := HI.out; have := HTT.out; have := HL.out; have := HM.out; omega) (by have := HR.out.held; have := HTT.out; have := HH.out; omega) Ab cb HX.out HCB.out HBR.out HFA.out).mono ?_
      rintro e w2 ⟨v2, A2, rfl, hr2, hl2⟩
      have HQ := Aside0.mk (app_ready HR.out.row hl2 hr2 HR.out.lin.kept.1)
      have HL2 := Aside0.mk (HR.out.lin.trans hl2)
      have HW2 := Aside0.mk hl2.kept.1
      clear hr2 hl2
      generalize hst : step s1 x = st at HQ HL2 HSB HE
      obtain ⟨s2, Y⟩ := st
      dsimp only at HQ HL2 HSB HE
      obtain ⟨Ax, cx, hv2, hrd⟩ := HQ.out.2.1
      subst hv2
      have HRD := Aside0.mk hrd
      clear hrd hst
      go_wp2_with (at_builtin; refine Kd.R_append_rows kL (w0 := w2) (W := w2) w.heap.size rfl (.tmp 13) (.tmp 19) 35 47 (.agg #[.int .i64 0, .int .i64 0, .slice none 0 0]) 40 rfl Try.underlying35 infoL rfl (by decide) (by decide) (.slice A5 X.length c5) X Y Ax Y.length cx (fun k => ¬ Foot gs gw M A2 k) (fun k => ¬ Foot gs gw M A2 k ∧ wr.heap.size ≤ k) rfl rfl HQ.out.1 HRD.out (fun _ _ h => h) HQ.out.2.2.1 HQ.out.2.2.2.1 (Below.refl _ _) (Nat.le_trans HR.out.lin.kept.1 HW2.out) (by have := HR.out.few; have := HSB.out.2.2; have := HTT.out; omega) ?_; intro v1 w3 hr1 hb1 hg1 hat1; have HR3 := Aside0.mk hr1; have HL3 := Aside0.mk (app_post HL2.out HBW.out hg1 hb1 HQ.out.2.2.2.2); have HS3 := Aside0.mk (HSRC.out.step HL3.out); clear hr1 hb1 hg1 hat1)
      go_roundw
      case rel => exact ⟨n + 1, s2, X ++ Y, A2, by first | rfl | exact congrArg (Value.int .i64) hw2, ⟨HI.out, HE.out, HR3.out, HL3.out, HS3.out, HSB.out.1.mono (by have := HTT.out; omega), by have := HSB.out.2.1; have := HR.out.held; have := HTT.out; omega, by have := HSB.out.2.2; have := HR.out.few; have := HTT.out; rw [List.length_append]; omega⟩⟩
      case measure => exact ms_step HI.out (by first | exact hw2 | simp)
    · have e1 : decide ((n : Int) < (L.length : Int)) = false := decide_eq_false (by omega)
      have e2 : decide (n < L.length) = false := decide_eq_false hlt
      have hn : n = L.length := by have := HR.out.le; omega
      have HX := Aside0.mk (show runs s L = (s1, X) by have := HR.out.eq; rw [hn, List.take_length] at this; exact this)
      have HTT := Aside0.mk (show tot (L.take n) ≤ 1600 by have := tot_take_le L n; have := HT.out; omega)
      have HNL := Aside0.mk (show n ≤ 300 by have := HL.out; omega)
      clear hn hlt
      have HSB := Aside0.mk (endS_bd s1 _ HR.out.bd (by have := HR.out.held; have := HTT.out; have := HH.out; omega))
      go_wp2_with fail
      refine (end_calls HR.out.lin.str (HR.out.bd.sml (by have := HTT.out; have := HM.out; have := HNL.out; omega)) HBR.out).mono ?_
      rintro e w2 ⟨v2, A2, rfl, hr2, hl2⟩
      have HQ := Aside0.mk (app_ready HR.out.row hl2 hr2 HR.out.lin.kept.1)
      have HL2 := Aside0.mk (HR.out.lin.trans hl2)
      have HW2 := Aside0.mk hl2.kept.1
      clear hr2 hl2
      have HE := Aside0.mk (show runF s L = ((endS s1).1, X ++ (endS s1).2) by unfold runF; rw [HX.out])
      generalize hst : endS s1 = st at HQ HL2 HSB HE
      obtain ⟨s2, Y⟩ := st
      dsimp only at HQ HL2 HSB HE
      obtain ⟨Ax, cx, hv2, hrd⟩ := HQ.out.2.1
      subst hv2
      have HRD := Aside0.mk hrd
      clear hrd hst
      go_wp2_with (at_builtin; refine Kd.R_append_rows kL (w0 := w2) (W := w2) w.heap.size rfl (.tmp 21) (.tmp 23) 35 47 (.agg #[.int .i64 0, .int .i64 0, .slice none 0 0]) 40 rfl Try.underlying35 infoL rfl (by decide) (by decide) (.slice A5 X.length c5) X Y Ax Y.length cx (fun k => ¬ Foot gs gw M A2 k) (fun k => ¬ Foot gs gw M A2 k ∧ wr.heap.size ≤ k) rfl rfl HQ.out.1 HRD.out (fun _ _ h => h) HQ.out.2.2.1 HQ.out.2.2.2.1 (Below.refl _ _) (Nat.le_trans HR.out.lin.kept.1 HW2.out) (by have := HR.out.few; have := HSB.out.2.2; have := HTT.out; omega) ?_; intro v1 w3 hr1 hb1 hg1 hat1; have HR3 := Aside0.mk hr1; have HL3 := Aside0.mk (app_post HL2.out HBW.out hg1 hb1 HQ.out.2.2.2.2); clear hr1 hb1 hg1 hat1)
      go_ret
      rw [HE.out]
      exact ⟨_, A2, rfl, HR3.out, HL3.out⟩
end Go.Proofs.Ytgiaabgmnjaefaa.Str
