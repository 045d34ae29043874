/- The lines that a stream tells, and a text's lines: plain. -/
import Derived.Test.YtgiaabgmnjaefaaStrP
import Derived.Test.YtgiaabgmnjaefaaLinB
section
namespace Go.Proofs.Ytgiaabgmnjaefaa.Str
open Go Go.RowKit Go.Proofs Go.Proofs.Ytgiaabgmnjaefaa.Met Go.Proofs.Ytgiaabgmnjaefaa.Win Go.Proofs.YtgiaabgmnjaefaaW.PrintWords Go.Proofs.YtgiaabgmnjaefaaW.PrintMore
open Go.Proofs.Ytgiaabgmnjaefaa.Lin (SLX kLX linesUp linesUp_cons)
set_option linter.unusedVariables false
set_option linter.unusedSimpArgs false
/-- lines, numbered -/
def numd : Nat → List SLX → List Ln
  | n, [] => []
  | n, y :: Y => ((n : Int), y.f0, y.f1) :: numd (n + 1) Y
theorem numd_len : ∀ (Y : List SLX) (n : Nat), (numd n Y).length = Y.length
  | [], n => rfl
  | y :: Y, n => by rw [numd, List.length_cons, List.length_cons, numd_len Y]
theorem numd_get : ∀ (Y : List SLX) (n i : Nat) (h : i < Y.length), (numd n Y)[i]? = some (((n + i : Nat) : Int), Y[i].f0, Y[i].f1)
  | [], n, i, h => absurd h (Nat.not_lt_zero _)
  | y :: Y, n, 0, h => rfl
  | y :: Y, n, i + 1, h => by
    rw [numd, List.getElem?_cons_succ, numd_get Y (n + 1) i (by simpa using h), show n + 1 + i = n + (i + 1) by omega]
    rfl
/-- the lines that aren't too long, up to the first one that is -/
def short (most : Int) : List SLX → List SLX
  | [] => []
  | y :: Y => if (y.f1.length : Int) ≤ most then y :: short most Y else []
theorem short_le (most : Int) : ∀ Y, (short most Y).length ≤ Y.length
  | [] => Nat.le_refl _
  | y :: Y => by
    unfold short
    split
    · have := short_le most Y; rw [List.length_cons, List.length_cons]; omega
    · exact Nat.zero_le _
theorem short_all (most : Int) : ∀ Y : List SLX, (∀ y ∈ Y, (y.f1.length : Int) ≤ most) → short most Y = Y
  | [], _ => rfl
  | y :: Y, h => by
    unfold short
    rw [if_pos (h y List.mem_cons_self), short_all most Y (fun y hy => h y (List.mem_cons_of_mem _ hy))]
theorem short_mem (most : Int) : ∀ (Y : List SLX) (i : Nat) (h : i < (short most Y).length) (h2 : i < Y.length), (Y[i].f1.length : Int) ≤ most
  | [], i, h, h2 => absurd h2 (Nat.not_lt_zero _)
  | y :: Y, i, h, h2 => by
    unfold short at h
    split at h
    · rename_i hq
      cases i with
      | zero => exact hq
      | succ i => exact short_mem most Y i (by simpa using h) (by simpa using h2)
    · exact absurd h (Nat.not_lt_zero _)
theorem short_end (most : Int) : ∀ (Y : List SLX) (h : (short most Y).length < Y.length), ¬ ((Y[(short most Y).length]'h).f1.length : Int) ≤ most
  | [], h => absurd h (Nat.not_lt_zero _)
  | y :: Y, h => by
    by_cases hq : (y.f1.length : Int) ≤ most
    · have e : short most (y :: Y) = y :: short most Y := if_pos hq
      have hl : (short most (y :: Y)).length = (short most Y).length + 1 := by rw [e, List.length_cons]
      have h3 : (short most Y).length < Y.length := by rw [hl, List.length_cons] at h; omega
      have := short_end most Y h3
      simp only [hl, List.getElem_cons_succ]
      exact this
    · have e : short most (y :: Y) = [] := if_neg hq
      have hl : (short most (y :: Y)).length = 0 := by rw [e]; rfl
      simp only [hl, List.getElem_cons_zero]
      exact hq
theorem up_first : ∀ (l : List Int) (off : Int) (cur : List Int), cur ≠ [] → ∃ y Y, linesUp l off cur = y :: Y ∧ cur.length ≤ y.f1.length
  | [], off, cur, h => ⟨⟨off, cur, false⟩, [], by unfold linesUp; rw [if_neg h], Nat.le_refl _⟩
  | c :: l, off, cur, h => by
    rw [linesUp_cons]
    by_cases hc : c = 10
    · rw [if_pos hc]
      exact ⟨_, _, rfl, Nat.le_refl _⟩
    · rw [if_neg hc]
      obtain ⟨y, Y, e, h2⟩ := up_first l off (cur ++ [c]) (by simp)
      exact ⟨y, Y, e, by rw [List.length_append] at h2; omega⟩
theorem up_len : ∀ (l : List Int) (off : Int) (cur : List Int), ∀ y ∈ linesUp l off cur, y.f1.length ≤ cur.length + l.length
  | [], off, cur, y, hy => by
    unfold linesUp at hy
    split at hy
    · cases hy
    · rw [List.mem_singleton] at hy
      subst hy
      exact Nat.le_add_right _ _
  | c :: l, off, cur, y, hy => by
    rw [linesUp_cons] at hy
    rw [List.length_cons]
    by_cases hc : c = 10
    · rw [if_pos hc, List.mem_cons] at hy
      rcases hy with rfl | hy
      · exact Nat.le_add_right _ _
      · have := up_len l _ _ y hy
        simp only [List.length_nil] at this
        omega
    · rw [if_neg hc] at hy
      have := up_len l _ _ y hy
      rw [List.length_append] at this
      simp only [List.length_cons, List.length_nil] at this
      omega
/-- what a stream tells of bytes, and what is wrong then -/
theorem told_up (most : Int) (h0 : 0 ≤ most) : ∀ (cs : List Int) (a : Co), a.over = false → a.bad = 0 → (a.held.length : Int) ≤ most →
    lnB most a cs ++ lnE (coB most a cs) = numd a.num (short most (linesUp cs (a.off : Int) a.held)) ∧
    ((short most (linesUp cs (a.off : Int) a.held)).length = (linesUp cs (a.off : Int) a.held).length → (coE (coB most a cs)).bad = 0) ∧
    ((short most (linesUp cs (a.off : Int) a.held)).length ≠ (linesUp cs (a.off : Int) a.held).length → (coE (coB most a cs)).bad = 15 ∧ (coE (coB most a cs)).num = a.num + (short most (linesUp cs (a.off : Int) a.held)).length)
  | [], a, ho, hb, hm => by
    have hao : ¬ a.over = true := by rw [ho]; decide
    show [] ++ lnE a = _ ∧ (_ → (coE a).bad = 0) ∧ (_ → (coE a).bad = 15 ∧ (coE a).num = _)
    rw [(coE_hunt a).2, hb, List.nil_append]
    unfold lnE linesUp
    rw [if_neg hao]
    by_cases hz : a.held.length = 0
    · have hn : a.held = [] := List.eq_nil_of_length_eq_zero hz
      rw [if_pos hz, if_pos hn]
      exact ⟨rfl, fun _ => rfl, fun h => absurd rfl h⟩
    · have hn : ¬ a.held = [] := fun e => hz (by rw [e]; rfl)
      have hs : short most [(⟨(a.off : Int), a.held, false⟩ : SLX)] = [⟨(a.off : Int), a.held, false⟩] := if_pos hm
      rw [if_neg hz, if_neg hn, hs]
      exact ⟨rfl, fun _ => rfl, fun h => absurd rfl h⟩
  | c :: cs, a, ho, hb, hm => by
    have hao : ¬ a.over = true := by rw [ho]; decide
    rw [linesUp_cons]
    show (ln1 a c ++ lnB most (co1 most a c) cs) ++ lnE (coB most (co1 most a c) cs) = _ ∧ (_ → (coE (coB most (co1 most a c) cs)).bad = 0) ∧ (_ → (coE (coB most (co1 most a c) cs)).bad = 15 ∧ (coE (coB most (co1 most a c) cs)).num = _)
    by_cases hc : c = 10
    · have e1 : co1 most a c = { a with held := [], num := a.num + 1, off := a.off + (a.held.length + 1), hunt := a.hunt + 1 } := by unfold co1; rw [if_neg hao, if_pos hc]
      have e2 : ln1 a c = [((a.num : Int), (a.off : Int), a.held)] := by unfold ln1; rw [if_neg hao, if_pos hc]
      obtain ⟨q1, q2, q3⟩ := told_up most h0 cs (co1 most a c) (by rw [e1]; exact ho) (by rw [e1]; exact hb) (by rw [e1]; exact h0)
      have hoff : (((co1 most a c).off : Nat) : Int) = (a.off : Int) + (a.held.length : Int) + 1 := by rw [e1]; show ((a.off + (a.held.length + 1) : Nat) : Int) = _; omega
      have hheld : (co1 most a c).held = [] := by rw [e1]
      have hnum : (co1 most a c).num = a.num + 1 := by rw [e1]
      rw [hoff, hheld, hnum] at q1 q3
      rw [hoff, hheld] at q2
      rw [if_pos hc, e2, List.append_assoc, q1]
      have hs : short most ((⟨(a.off : Int), a.held, true⟩ : SLX) :: linesUp cs ((a.off : Int) + (a.held.length : Int) + 1) []) = ⟨(a.off : Int), a.held, true⟩ :: short most (linesUp cs ((a.off : Int) + (a.held.length : Int) + 1) []) := if_pos hm
      rw [hs]
      refine ⟨rfl, fun h => q2 (by simpa using h), fun h => ?_⟩
      obtain ⟨r1, r2⟩ := q3 (by simpa using h)
      refine ⟨r1, ?_⟩
      rw [r2, List.length_cons]
      omega
    · rw [if_neg hc]
      by_cases hmo : most ≤ (a.held.length : Int)
      · have e1 : co1 most a c = { a with hunt := a.hunt + 1, over := true, bad := 15 } := by unfold co1; rw [if_neg hao, if_neg hc, if_pos hmo]
        have e2 : ln1 a c = [] := by unfold ln1; rw [if_neg hao, if_neg hc]
        obtain ⟨y, Y, e3, e4⟩ := up_first cs (a.off : Int) (a.held ++ [c]) (by simp)
        rw [List.length_append] at e4
        simp only [List.length_cons, List.length_nil] at e4
        have hs : short most (y :: Y) = [] := if_neg (by omega)
        rw [e3, hs, e1, coB_over _ _ _ rfl, lnB_over _ _ _ rfl, e2]
        exact ⟨rfl, ⟨fun h => absurd h (by simp), fun _ => ⟨rfl, rfl⟩⟩⟩
      · have e1 : co1 most a c = { a with held := a.held ++ [c], hunt := a.hunt + 1 } := by unfold co1; rw [if_neg hao, if_neg hc, if_neg hmo]
        have e2 : ln1 a c = [] := by unfold ln1; rw [if_neg hao, if_neg hc]
        obtain ⟨q1, q2, q3⟩ := told_up most h0 cs (co1 most a c) (by rw [e1]; exact ho) (by rw [e1]; exact hb) (by rw [e1]; show ((a.held ++ [c]).length : Int) ≤ most; rw [List.length_append]; simp only [List.length_cons, List.length_nil]; omega)
        have hoff : (co1 most a c).off = a.off := by rw [e1]
        have hheld : (co1 most a c).held = a.held ++ [c] := by rw [e1]
        have hnum : (co1 most a c).num = a.num := by rw [e1]
        rw [hoff, hheld, hnum] at q1 q3
        rw [hoff, hheld] at q2
        rw [e2, List.nil_append]
        exact ⟨q1, q2, q3⟩
theorem told_new_up (most : Int) (h0 : 0 ≤ most) (b : List Int) :
    lnB most newCo b ++ lnE (coB most newCo b) = numd 0 (short most (linesUp b 0 [])) ∧
    ((short most (linesUp b 0 [])).length = (linesUp b 0 []).length → (coE (coB most newCo b)).bad = 0) ∧
    ((short most (linesUp b 0 [])).length ≠ (linesUp b 0 []).length → (coE (coB most newCo b)).bad = 15 ∧ (coE (coB most newCo b)).num = (short most (linesUp b 0 [])).length) := by
  have := told_up most h0 b newCo rfl rfl h0
  rw [show newCo.num = 0 from rfl, Nat.zero_add] at this
  exact this
theorem told_all_up (b : List Int) : short (b.length : Int) (linesUp b 0 []) = linesUp b 0 [] := short_all _ _ (fun y hy => by have := up_len b 0 [] y hy; simp only [List.length_nil] at this; omega)
end Go.Proofs.Ytgiaabgmnjaefaa.Str
end
/- StreamLines: the lines of chunks are those of all bytes. -/
section
namespace Go.Proofs.Ytgiaabgmnjaefaa.Str
open Go Go.RowKit Go.Proofs Go.Proofs.Ytgiaabgmnjaefaa.Met Go.Proofs.Ytgiaabgmnjaefaa.Win Go.Proofs.YtgiaabgmnjaefaaW.PrintWords Go.Proofs.YtgiaabgmnjaefaaW.PrintMore
open Go.Proofs.Ytgiaabgmnjaefaa.Lin (SLX kLX linesUp linesUp_cons split_calls at_TLX rd_TLX)
set_option linter.unusedVariables false
set_option linter.unusedSimpArgs false
attribute [local go_sem] max2_int min2_int max_two min_two max_three min_three
set_option maxHeartbeats 16000000 in
set_option maxRecDepth 100000 in
theorem lines_calls (A0 : Option Addr) (c0 : Nat) (l0 : List (List Int)) (w : World) (hr0 : Kd.C kB w A0 l0.length l0) (hc0 : l0.length ≤ c0) :
    Calls Try.prog 8 #[.slice A0 l0.length c0] w fun e w' => e = .returned (.bool true) ∧ Below w.heap.size w w' := by
  have HR0 := Aside0.mk hr0
  have HC0 := Aside0.mk hc0
  clear hr0 hc0
  go_enter Try.func8, Try.ntmps8
  go_wp2_with fail
  refine (awake_calls _).mono ?_
  rintro e w1 ⟨rfl, hb1⟩
  have HB1 := Aside0.mk hb1
  clear hb1
  go_wp2_with fail
  refine (few_calls _ A0 c0 l0 (Kd.C_below HR0.out HB1.out) HC0.out).mono ?_
  rintro e w2 ⟨v, rfl, r1, rfl, hb2, hq1⟩
  have HB2 := Aside0.mk (below_step HB1.out hb2)
  have HQ1 := Aside0.mk hq1
  clear hb2 hq1
  cases r1 with
  | false =>
    go_wp2
    go_ret
    exact ⟨rfl, HB2.out⟩
  | true =>
  have HF1 := Aside0.mk (HQ1.out rfl)
  clear HQ1
  go_wp2_with fail
  refine (all_calls w2 A0 c0 l0 (Kd.C_below HR0.out HB2.out) HC0.out HF1.out.1 HF1.out.2).mono ?_
  rintro e w3 ⟨vb, rfl, hrb, hb3⟩
  have HLB := Aside0.mk (show l0.flatten.length ≤ 1500 by rw [flat_len]; exact HF1.out.1)
  have P1 := Aside0.mk (runF_new (l0.flatten.length : Int) l0)
  rw [show mostN (l0.flatten.length : Int) = (l0.flatten.length : Int) from if_neg (by omega)] at P1
  have PT := Aside0.mk (told_new_up (l0.flatten.length : Int) (by omega) l0.flatten)
  rw [told_all_up l0.flatten] at PT
  generalize l0.flatten = b at hrb HLB P1 PT
  obtain ⟨Ab, cb, hv⟩ := Kd.R_slice hrb
  subst hv
  have HRB := Aside0.mk hrb
  have HB3 := Aside0.mk (Below.trans HB2.out (hb3.mono HB2.out.size))
  clear hrb hb3
  go_wp2_with fail
  refine (stream_new none (b.length : Int) 0 w3 w3.heap.size (Nat.le_refl _) (fun k e => by cases e) (fun g hg => by cases hg)).mono ?_
  rintro e w4 ⟨gs, gw, rfl, hs, hb4, hgs, hgw⟩
  have HS4 := Aside0.mk hs
  have HRB4 := Aside0.mk (Kd.R_below (Kd.R_bound HRB.out) hb4)
  have HB4 := Aside0.mk (Below.trans HB3.out (hb4.mono HB3.out.size))
  have HZ4 := Aside0.mk hb4.size
  have HCC := Aside0.mk (src_arg (w0 := w3) (w := w4) (Kd.C_below HR0.out HB3.out) hb4 hs)
  clear hs hb4 hgs hgw
  go_wp2_with fail
  refine (run_calls HS4.out (bd_new _ 0) l0 c0 HCC.out HC0.out (by have := HF1.out.1; omega) (by have := HF1.out.2; omega) (Nat.zero_le _) (Nat.zero_le _) HZ4.out).mono ?_
  rintro e w5 ⟨vx, A5, rfl, hx5, hl5⟩
  rw [P1.out.2, PT.out.1] at hx5
  have HBAD := Aside0.mk (show (runF (newSS (b.length : Int) 0) l0).1.bad = 0 by rw [← P1.out.1.bad]; exact PT.out.2.1 (by first | trivial | rfl))
  clear P1 PT
  generalize (runF (newSS (b.length : Int) 0) l0).1 = s1 at hl5 HBAD
  generalize hY : linesUp b 0 [] = Y at hx5
  obtain ⟨Ax, cx, hv⟩ := Kd.R_slice hx5
  rw [numd_len] at hv
  subst hv
  have HX := Aside0.mk (Kd.R_reads' hx5)
  rw [numd_len] at HX
  have HS5 := Aside0.mk hl5.str
  have HC5 := Aside0.mk (Kd.R_reads' (Kd.R_kept HRB4.out hl5.kept (fun k hk hs => by have := foot_low HS4.out k hs; have := hk.2.2.1; omega)))
  have HB5 := Aside0.mk (Below.trans HB4.out (hl5.bel.mono HB3.out.size))
  have HXL := Aside0.mk (C_len HX.out.2.2)
  have HYE := Aside0.mk hY
  clear hx5 hl5 hY
  go_wp2_with fail
  refine (split_calls Ab cb b w5 HC5.out.2.2 HC5.out.2.1 (by have := HLB.out; omega)).mono ?_
  rintro e w6 ⟨vy, rfl, hy6, hb6⟩
  rw [HYE.out] at hy6
  obtain ⟨Ay, cy, hv, hcy, hy⟩ := Kd.S_reads hy6
  subst hv
  have HY6 := Aside0.mk hy
  have HX6 := Aside0.mk (Kd.C_below HX.out.2.2 hb6)
  have HS6 := Aside0.mk (HS5.out.below hb6)
  have HB6 := Aside0.mk (Below.trans HB5.out (hb6.mono HB5.out.size))
  clear hy6 hb6 hcy hy HX HS5
  have HE6 := Aside0.mk (err_some HS6.out)
  rw [HBAD.out, if_pos rfl] at HE6
  go_wp2_with fail
  refine HE6.out.mono ?_
  rintro e w7 ⟨rfl, hb7⟩
  have HY7 := Aside0.mk (Kd.C_below HY6.out hb7)
  have HX7 := Aside0.mk (Kd.C_below HX6.out hb7)
  have HB7 := Aside0.mk (Below.trans HB6.out (hb7.mono HB6.out.size))
  clear hb7 HE6 HY6 HX6
  go_wp2
  go_loopw [11] (fun v11 wr => ∃ (i : Nat), v11 = .int .i64 (i : Int) ∧ Aside0 (i ≤ Y.length) ∧ Aside0 (Below w7.heap.size w7 wr)) (fun v _ => Y.length - (intOf v).toNat)
  case atStart => exact ⟨0, rfl, ⟨Nat.zero_le _⟩, ⟨Below.refl _ _⟩⟩
  case round =>
    obtain ⟨i, rfl, HI, HBW⟩ := hrel
    by_cases hlt : i < Y.length
    · have e1 : decide ((i : Int) < (Y.length : Int)) = true := decide_eq_true (by omega)
      have e2 : decide (i < Y.length) = true := decide_eq_true hlt
      have HIL := Aside0.mk hlt
      obtain ⟨ad1, A1, c1, rfl, p0, p1, p2, p3, p4⟩ := line_at (Kd.C_below HX7.out HBW.out) i _ (numd_get Y 0 i hlt)
      obtain ⟨ad2, A2, c2, rfl, g0, g1, g2, g3, g4⟩ := at_TLX (Kd.C_below HY7.out HBW.out) (i : Int) (by omega) (by omega)
      rw [show rd_TLX Y (i : Int) = Y[i] by unfold rd_TLX; rw [Int.toNat_natCast, List.getD_eq_getElem?_getD, List.getElem?_eq_getElem hlt]; rfl] at g0 g1 g2 g3 g4
      rw [Int.toNat_natCast] at g0 g1 g2
      rw [Nat.zero_add] at p0
      generalize (Y[i]'hlt) = y at p0 p1 p2 p3 p4 g0 g1 g2 g3 g4
      obtain ⟨y0, y1, y2⟩ := y
      dsimp only at p0 p1 p2 p3 p4 g0 g1 g2 g3 g4
      have s0 := fun m => Kd.C_string (P := Try.prog) (A := A1) (c := c1) Try.underlying38 Try.underlying5 Try.underlying9 (Kd.C_drewN p4 m)
      have s1' := fun m => Kd.C_string (P := Try.prog) (A := A2) (c := c2) Try.underlying38 Try.underlying5 Try.underlying9 (Kd.C_drewN g4 m)
      have k0 : 0 ≤ (i : Int) := by omega
      have k1 : (i : Int) < (Y.length : Int) := by omega
      have hw2 : wrap64 ((i : Int) + 1) = ((i + 1 : Nat) : Int) := wr_big (by omega) (by have := HXL.out; have := HIL.out; omega)
      clear hlt p3 g3 p4 g4
      generalize strOfNums y1 = str at s0 s1'
      generalize y1.length = m at p2 g1 s0 s1'
      go_wp2
      go_quiet (fail)
      go_wp2
      go_roundw
      case rel => exact ⟨i + 1, by first | rfl | exact congrArg (Value.int .i64) hw2, HIL, ⟨pw_below_drewN HBW.out _⟩⟩
      case measure => exact ms_step HIL.out (by first | exact hw2 | simp)
    · have e1 : decide ((i : Int) < (Y.length : Int)) = false := decide_eq_false (by omega)
      have e2 : decide (i < Y.length) = false := decide_eq_false hlt
      go_wp2
      go_ret
      exact ⟨rfl, Below.trans HB7.out (HBW.out.mono HB7.out.size)⟩
end Go.Proofs.Ytgiaabgmnjaefaa.Str
end
/- StreamCap: a stream fails just if a line is too long. -/
section
namespace Go.Proofs.Ytgiaabgmnjaefaa.Str
open Go Go.RowKit Go.Proofs Go.Proofs.Ytgiaabgmnjaefaa.Met Go.Proofs.Ytgiaabgmnjaefaa.Win Go.Proofs.YtgiaabgmnjaefaaW.PrintWords Go.Proofs.YtgiaabgmnjaefaaW.PrintMore
open Go.Proofs.Ytgiaabgmnjaefaa.Lin (SLX kLX linesUp linesUp_cons split_calls at_TLX rd_TLX)
set_option linter.unusedVariables false
set_option linter.unusedSimpArgs false
attribute [local go_sem] max2_int min2_int max_two min_two max_three min_three
theorem short_facts (most : Int) (Y : List SLX) : ∃ sl, sl = (short most Y).length ∧ sl ≤ Y.length ∧ (∀ i (h2 : i < Y.length), i < sl → (Y[i].f1.length : Int) ≤ most) ∧ (∀ h : sl < Y.length, ¬ (Y[sl].f1.length : Int) ≤ most) := ⟨_, rfl, short_le _ _, fun i h2 h => short_mem most Y i h h2, short_end most Y⟩
set_option maxHeartbeats 16000000 in
set_option maxRecDepth 100000 in
theorem cap_calls (A0 : Option Addr) (c0 : Nat) (l0 : List (List Int)) (most : Int) (h0 : 0 ≤ most) (h1 : most < 256) (w : World) (hr0 : Kd.C kB w A0 l0.length l0) (hc0 : l0.length ≤ c0) :
    Calls Try.prog 9 #[.slice A0 l0.length c0, .int .u8 most] w fun e w' => e = .returned (.bool true) ∧ Below w.heap.size w w' := by
  have HR0 := Aside0.mk hr0
  have HC0 := Aside0.mk hc0
  have HMO := Aside0.mk (And.intro h0 h1)
  have hwm : IntKind.i64.wrap most = most := wr_in (by omega) (by omega)
  have hwm2 : wrap64 most = most := wr9 (by omega) (by omega)
  clear hr0 hc0 h0 h1
  go_enter Try.func9, Try.ntmps9
  go_wp2_with fail
  refine (awake_calls _).mono ?_
  rintro e w1 ⟨rfl, hb1⟩
  have HB1 := Aside0.mk hb1
  clear hb1
  go_wp2_with fail
  refine (few_calls _ A0 c0 l0 (Kd.C_below HR0.out HB1.out) HC0.out).mono ?_
  rintro e w2 ⟨v, rfl, r1, rfl, hb2, hq1⟩
  have HB2 := Aside0.mk (below_step HB1.out hb2)
  have HQ1 := Aside0.mk hq1
  clear hb2 hq1
  cases r1 with
  | false =>
    go_wp2
    go_ret
    exact ⟨rfl, HB2.out⟩
  | true =>
  have HF1 := Aside0.mk (HQ1.out rfl)
  clear HQ1
  go_wp2_with fail
  refine (stream_new none most 0 w2 w2.heap.size (Nat.le_refl _) (fun k e => by cases e) (fun g hg => by cases hg)).mono ?_
  rintro e w4 ⟨gs, gw, rfl, hs, hb4, hgs, hgw⟩
  have HS4 := Aside0.mk hs
  have HB4 := Aside0.mk (Below.trans HB2.out (hb4.mono HB2.out.size))
  have HZ4 := Aside0.mk hb4.size
  have HCC := Aside0.mk (src_arg (w0 := w2) (w := w4) (Kd.C_below HR0.out HB2.out) hb4 hs)
  clear hs hb4 hgs hgw
  have P1 := Aside0.mk (runF_new most l0)
  rw [show mostN most = most from if_neg (by have := HMO.out; omega)] at P1
  have PT := Aside0.mk (told_new_up most HMO.out.1 l0.flatten)
  go_wp2_with fail
  refine (run_calls HS4.out (bd_new most 0) l0 c0 HCC.out HC0.out (by have := HF1.out.1; omega) (by have := HF1.out.2; omega) (Nat.zero_le _) (Nat.zero_le _) HZ4.out).mono ?_
  rintro e w5 ⟨vx, A5, rfl, hx5, hl5⟩
  rw [P1.out.2, PT.out.1] at hx5
  have P1S := Aside0.mk P1.out.1
  clear P1
  generalize (runF (newSS most 0) l0).1 = s1 at hl5 P1S
  obtain ⟨Ax, cx, hv⟩ := Kd.R_slice hx5
  rw [numd_len] at hv
  have HS5 := Aside0.mk hl5.str
  have HB5 := Aside0.mk (Below.trans HB4.out (hl5.bel.mono HB2.out.size))
  have HLB := Aside0.mk (show l0.flatten.length ≤ 1500 by rw [flat_len]; exact HF1.out.1)
  obtain ⟨sl, hsl, hs1, hs2, hs3⟩ := short_facts most (linesUp l0.flatten 0 [])
  rw [← hsl] at hv
  subst hv
  have HSL := Aside0.mk hs1
  have HSM := Aside0.mk hs2
  have HSE := Aside0.mk hs3
  obtain ⟨bd, hbd⟩ : ∃ bd, bd = s1.bad := ⟨_, rfl⟩
  obtain ⟨er, her⟩ : ∃ er : Int, er = (if s1.bad = 0 then 0 else (s1.num : Int)) := ⟨_, rfl⟩
  have HBD := Aside0.mk (show (sl = (linesUp l0.flatten 0 []).length → bd = 0 ∧ er = 0) ∧ (sl ≠ (linesUp l0.flatten 0 []).length → bd = 15 ∧ er = (sl : Int)) by
    refine ⟨fun h => ?_, fun h => ?_⟩
    · have h2 := PT.out.2.1 (by rw [← hsl]; exact h)
      rw [P1S.out.bad] at h2
      exact ⟨by rw [hbd, h2], by rw [her, if_pos h2]⟩
    · have h2 := PT.out.2.2 (by rw [← hsl]; exact h)
      rw [P1S.out.bad, P1S.out.num, ← hsl] at h2
      exact ⟨by rw [hbd, h2.1], by rw [her, if_neg (by rw [h2.1]; decide), h2.2]⟩)
  have HEB := Aside0.mk hbd
  have HER := Aside0.mk her
  clear hx5 hl5 hs1 hs2 hs3 hsl hbd her PT P1S
  go_wp2_with fail
  refine (all_calls w5 A0 c0 l0 (Kd.C_below HR0.out HB5.out) HC0.out HF1.out.1 HF1.out.2).mono ?_
  rintro e w6 ⟨vb, rfl, hrb, hb6⟩
  generalize l0.flatten = b at hrb HLB HSL HSM HSE HBD
  obtain ⟨Ab, cb, hv⟩ := Kd.R_slice hrb
  subst hv
  have HC6 := Aside0.mk (Kd.R_reads' hrb)
  have HS6 := Aside0.mk (HS5.out.below hb6)
  have HB6 := Aside0.mk (Below.trans HB5.out (hb6.mono HB5.out.size))
  clear hrb hb6 HS5
  go_wp2_with fail
  refine (split_calls Ab cb b w6 HC6.out.2.2 HC6.out.2.1 (by have := HLB.out; omega)).mono ?_
  rintro e w7 ⟨vy, rfl, hy7, hb7⟩
  have HYU := Aside0.mk (show (linesUp b 0 []).length ≤ 1500 by have := Lin.linesUp_len b 0 []; simp only [List.length_nil] at this; have := HLB.out; omega)
  generalize linesUp b 0 [] = Y at hy7 HSL HSM HSE HBD HYU
  obtain ⟨Ay, cy, hv, hcy, hy⟩ := Kd.S_reads hy7
  subst hv
  have HY7 := Aside0.mk hy
  have HS7 := Aside0.mk (HS6.out.below hb7)
  have HB7 := Aside0.mk (Below.trans HB6.out (hb7.mono HB6.out.size))
  clear hy7 hb7 hcy hy HS6
  have HE7 := Aside0.mk (err_some HS7.out)
  rw [← HER.out, ← HEB.out] at HE7
  go_wp2_with fail
  refine HE7.out.mono ?_
  rintro e w8 ⟨rfl, hb8⟩
  have HY8 := Aside0.mk (Kd.C_below HY7.out hb8)
  have HB8 := Aside0.mk (Below.trans HB7.out (hb8.mono HB7.out.size))
  clear hb8 HE7 HY7
  go_wp2
  go_loopw [12] (fun v12 wr => ∃ (i : Nat), v12 = .int .i64 (i : Int) ∧ Aside0 (i ≤ sl) ∧ Aside0 (Below w8.heap.size w8 wr)) (fun v _ => Y.length - (intOf v).toNat)
  case atStart => exact ⟨0, rfl, ⟨Nat.zero_le _⟩, ⟨Below.refl _ _⟩⟩
  case round =>
    obtain ⟨i, rfl, HI, HBW⟩ := hrel
    by_cases hlt : i < Y.length
    · have e1 : decide ((i : Int) < (Y.length : Int)) = true := decide_eq_true (by omega)
      have e2 : decide (i < Y.length) = true := decide_eq_true hlt
      have HIL := Aside0.mk hlt
      obtain ⟨ad2, A2, c2, rfl, g0, g1, g2, g3, g4⟩ := at_TLX (Kd.C_below HY8.out HBW.out) (i : Int) (by omega) (by omega)
      rw [show rd_TLX Y (i : Int) = Y[i] by unfold rd_TLX; rw [Int.toNat_natCast, List.getD_eq_getElem?_getD, List.getElem?_eq_getElem hlt]; rfl] at g0 g1 g2 g3 g4
      rw [Int.toNat_natCast] at g0 g1 g2
      have k0 : 0 ≤ (i : Int) := by omega
      have k1 : (i : Int) < (Y.length : Int) := by omega
      have hw2 : wrap64 ((i : Int) + 1) = ((i + 1 : Nat) : Int) := wr_big (by omega) (by have := HYU.out; have := HIL.out; omega)
      by_cases hsl : i < sl
      · have HIS := Aside0.mk hsl
        have d1 : decide (((Y[i]'hlt).f1.length : Int) ≤ most) = true := decide_eq_true (HSM.out i hlt hsl)
        generalize ((Y[i]'hlt).f1.length) = m at g1 d1
        clear hlt g0 g2 g3 g4 hsl
        go_wp2
        go_roundw
        case rel => exact ⟨i + 1, by first | rfl | exact congrArg (Value.int .i64) hw2, HIS, HBW⟩
        case measure => exact ms_step HIL.out (by first | exact hw2 | simp)
      · have hi : i = sl := by have := HI.out; omega
        have d1 : decide (((Y[i]'hlt).f1.length : Int) ≤ most) = false := decide_eq_false (fun h4 => absurd (by simpa only [hi] using h4) (Int.not_le.mpr (HSE.out (hi ▸ hlt))))
        have HNE := Aside0.mk (show bd = 15 ∧ er = (sl : Int) from HBD.out.2 (by rw [← hi]; exact Nat.ne_of_lt hlt))
        generalize ((Y[i]'hlt).f1.length) = m at g1 d1
        have d2 : ((i : Int) == (Y.length : Int)) = false := beq_eq_false_iff_ne.mpr (by omega)
        have d3 : (i == Y.length) = false := beq_eq_false_iff_ne.mpr (by omega)
        have d4 : ((sl : Int) == (i : Int)) = true := beq_iff_eq.mpr (by omega)
        have d5 : (sl == i) = true := beq_iff_eq.mpr hi.symm
        clear hlt g0 g2 g3 g4 hsl hi HBD HER HEB
        obtain ⟨rfl, rfl⟩ := HNE.out
        go_wp2
        go_ret
        exact ⟨rfl, Below.trans HB8.out (HBW.out.mono HB8.out.size)⟩
    · have e1 : decide ((i : Int) < (Y.length : Int)) = false := decide_eq_false (by omega)
      have e2 : decide (i < Y.length) = false := decide_eq_false hlt
      have hi : i = sl ∧ sl = Y.length := by have := HI.out; have := HSL.out; omega
      have HNE := Aside0.mk (show bd = 0 ∧ er = 0 from HBD.out.1 hi.2)
      have d2 : ((i : Int) == (Y.length : Int)) = true := beq_iff_eq.mpr (by omega)
      have d3 : (i == Y.length) = true := beq_iff_eq.mpr (by omega)
      have d4 : ((sl : Int) == (Y.length : Int)) = true := beq_iff_eq.mpr (by omega)
      have d5 : (sl == Y.length) = true := beq_iff_eq.mpr hi.2
      clear hlt hi HBD HER HEB
      obtain ⟨rfl, rfl⟩ := HNE.out
      go_wp2
      go_ret
      exact ⟨rfl, Below.trans HB8.out (HBW.out.mono HB8.out.size)⟩
end Go.Proofs.Ytgiaabgmnjaefaa.Str
end
