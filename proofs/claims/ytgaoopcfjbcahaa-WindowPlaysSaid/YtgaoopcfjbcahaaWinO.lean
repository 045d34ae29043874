/- WindowOnce, the law function: it answers true for every two lists of bytes. -/
import Derived.Test.YtgaoopcfjbcahaaWinF
import Derived.Test.YtgaoopcfjbcahaaWMore
import Derived.Deep.RegionHeld3
import Derived.Deep.QuietTactic
import Derived.BigQuiet
import Derived.RowKit3
import Derived.WideLaws
import Derived.Deep.DeepCutAuto
import Derived.Deep.CutBlock
import Derived.RowKit
import Derived.OwnWalk
import Derived.Laws.MakeOwn
import Derived.WalkSpells
import Derived.Lib.LazyBuf
import Derived.Laws.Slices
import Derived.OwnWalk
import Derived.Lib.ConvBytes
namespace Go.Proofs.Ytgaoopcfjbcahaa.Win
open Go Go.RowKit Go.Proofs Go.Proofs.YtgaoopcfjbcahaaW.PrintWords Go.Proofs.YtgaoopcfjbcahaaW.PrintMore
set_option linter.unusedVariables false
set_option linter.unusedSimpArgs false
attribute [local go_sem] max2_int min2_int max_two min_two max_three min_three
theorem once_pure (a b : List Int) (la : a.length ≤ 500) (lb : b.length ≤ 500) :
    ((addS newS a).room ≤ 100000 ∧ (addS newS a).mv ≤ 100000) ∧ ((addS (addS newS a) b).room ≤ 100000 ∧ (addS (addS newS a) b).mv ≤ 100000) ∧
    ((addS (clearS (addS (addS newS a) b)) b).room ≤ 100000 ∧ (addS (clearS (addS (addS newS a) b)) b).mv ≤ 100000) ∧
    ((addS (addS (clearS (addS (addS newS a) b)) b) a).room = (addS (addS newS a) b).room ∧ (addS (addS (clearS (addS (addS newS a) b)) b) a).mv = (addS (addS newS a) b).mv + b.length + a.length) ∧
    ((addS newS (a ++ b)).mv = (a ++ b).length ∧ (addS newS (a ++ b)).held = a ++ b ∧ (addS newS (a ++ b)).room ≤ max (addS (addS newS a) b).room 16 ∧ ((a ++ b).length ≠ 0 → (addS newS (a ++ b)).room = max (a ++ b).length 16)) := by
  have n1 : newS.held.length = 0 := rfl
  have n2 : newS.room = 0 := rfl
  have n3 : newS.mv = 0 := rfl
  have h1 := add_le newS a (by decide)
  have e1 : (addS newS a).held.length = a.length := by rw [add_held]; simp [newS]
  have h2 := add_le (addS newS a) b (by omega)
  have e2 : (addS (addS newS a) b).held.length = a.length + b.length := by rw [add_held, List.length_append, e1]
  have c1 : (clearS (addS (addS newS a) b)).held.length = 0 := rfl
  have c2 : (clearS (addS (addS newS a) b)).room = (addS (addS newS a) b).room := rfl
  have c3 : (clearS (addS (addS newS a) b)).mv = (addS (addS newS a) b).mv := rfl
  have f3 := add_fit (clearS (addS (addS newS a) b)) b (by omega)
  have e3 : (addS (clearS (addS (addS newS a) b)) b).held.length = b.length := by rw [add_held, List.length_append, c1]; omega
  have f4 := add_fit (addS (clearS (addS (addS newS a) b)) b) a (by omega)
  have g1 : (a ++ b).length = a.length + b.length := List.length_append
  have y1 : (addS newS (a ++ b)).mv = (a ++ b).length ∧ ((a ++ b).length ≠ 0 → (addS newS (a ++ b)).room = max (a ++ b).length 16) ∧ ((a ++ b).length = 0 → (addS newS (a ++ b)).room = 0) := by
    by_cases h0 : (a ++ b).length = 0
    · have e : addS newS (a ++ b) = newS := by unfold addS; rw [if_pos h0]
      rw [e, h0]
      exact ⟨rfl, fun q => absurd rfl q, fun _ => rfl⟩
    · have hg := add_grow newS (a ++ b) (by omega) (by decide)
      rw [hg.1, hg.2]
      unfold roomN
      refine ⟨by omega, fun _ => by omega, fun q => absurd q h0⟩
  refine ⟨by omega, by omega, by omega, by omega, y1.1, by rw [add_held]; rfl, ?_, y1.2.1⟩
  by_cases h0 : (a ++ b).length = 0
  · rw [y1.2.2 h0]; omega
  · rw [y1.2.1 h0]; omega
theorem Win.alt {w : World} {g : Nat} {M : Option Nat} {A : Option Addr} {st : St} (h : Win w g M A st) : ∀ ad, A = some ad → ad.block < w.heap.size := by
  obtain ⟨buf, h1, h2, h3⟩ := h
  intro ad e
  rcases Nat.eq_zero_or_pos buf.length with h0 | h0
  · have := h1.no h0
    rw [e] at this
    cases this
  · obtain ⟨gb, q1, q2, _, _⟩ := h1.row h0
    rw [e] at q1
    cases q1
    exact blk_lt q2
set_option maxHeartbeats 16000000 in
set_option maxRecDepth 100000 in
theorem once_calls (Aa Ab : Option Addr) (ca cb : Nat) (a b : List Int) (w : World) (hra : Kd.C (Kd.int .u8) w Aa a.length a) (hca : a.length ≤ ca) (hrb : Kd.C (Kd.int .u8) w Ab b.length b) (hcb : b.length ≤ cb) :
    Calls Try.prog 6 #[.slice Aa a.length ca, .slice Ab b.length cb] w fun e w' => e = .returned (.bool true) ∧ Below w.heap.size w w' := by
  have HRA := Aside0.mk hra
  have HRB := Aside0.mk hrb
  have HCA := Aside0.mk hca
  have HCB := Aside0.mk hcb
  clear hra hrb hca hcb
  by_cases la : a.length ≤ 500
  · by_cases lb : b.length ≤ 500
    · have d1 : decide ((a.length : Int) > 500) = false := decide_eq_false (by omega)
      have d2 : decide ((b.length : Int) > 500) = false := decide_eq_false (by omega)
      have HP := Aside0.mk (once_pure a b la lb)
      have HLA := Aside0.mk la
      have HLB := Aside0.mk lb
      have hfd := field40
      have hu40 := Try.underlying40
      clear la lb
      go_enter Try.func6, Try.ntmps6
      go_wp2_with fail
      refine (awake_calls _).mono ?_
      rintro e w1 ⟨rfl, hb1⟩
      have HB1 := Aside0.mk hb1
      clear hb1
      go_wp2_with fail
      refine (meter_new _).mono ?_
      rintro e w2 ⟨rfl, rfl⟩
      go_wp2_with fail
      refine (window_new (some w1.heap.size) _).mono ?_
      rintro e w2 ⟨rfl, rfl⟩
      have HM := Aside0.mk (show MAt (w1.alloc (.cells #[.int .i64 0, .int .i64 0, .int .i64 0, .int .i64 0] 46)) (some w1.heap.size) 0 0 0 0 from fun g hg => by cases hg; exact blk_new w1 _)
      have HX := Aside0.mk (win_new HM.out)
      have HB2 := Aside0.mk (below_alloc (below_alloc HB1.out (.cells #[.int .i64 0, .int .i64 0, .int .i64 0, .int .i64 0] 46)) (.cells #[.pointer (mp (some w1.heap.size)), .slice none 0 0, .int .i64 0] 48))
      rw [World.size_alloc] at HX ⊢
      have HGE := Aside0.mk HB1.out.size
      generalize hw2 : (w1.alloc (.cells #[.int .i64 0, .int .i64 0, .int .i64 0, .int .i64 0] 46)).alloc (.cells #[.pointer (mp (some w1.heap.size)), .slice none 0 0, .int .i64 0] 48) = w2 at HX HB2 ⊢
      generalize w1.heap.size = gm at HX HGE ⊢
      clear hw2 HM HB1
      have HXA : Aside0 (∀ k : Addr, (none : Option Addr) = some k → w.heap.size ≤ k.block) := ⟨fun k hk => by cases hk⟩
      go_wp2_with fail
      refine (win_add HX.out Aa ca w.heap.size a (by have := HGE.out; omega) (fun k hk => by cases hk; exact HGE.out) HXA.out (Kd.C_below HRA.out HB2.out) (fun hp ad e => by have hq := far_of HRA.out hp ad e; have := HGE.out; exact ⟨by omega, fun hm => by injection hm with hm; omega⟩) (by decide) (by have := HLA.out; omega) (by decide)).mono ?_
      rintro e w3 ⟨rfl, Ax3, hw, hao, hba, hkp, hbb⟩
      have HB3 := Aside0.mk (Below.trans HB2.out hbb)
      clear HX HXA HB2
      have HX := Aside0.mk hw
      have HXA := Aside0.mk hba
      clear hw hao hba hkp hbb
      go_wp2_with fail
      refine (win_add HX.out Ab cb w.heap.size b (by have := HGE.out; omega) (fun k hk => by cases hk; exact HGE.out) HXA.out (Kd.C_below HRB.out HB3.out) (fun hp ad e => by have hq := far_of HRB.out hp ad e; have := HGE.out; exact ⟨by omega, fun hm => by injection hm with hm; omega⟩) (by have := HP.out.1.1; omega) (by have := HLB.out; omega) (by have := HP.out.1.2; omega)).mono ?_
      rintro e w4 ⟨rfl, Ax4, hw, hao, hba, hkp, hbb⟩
      have HB4 := Aside0.mk (Below.trans HB3.out hbb)
      clear HX HXA HB3
      have HX := Aside0.mk hw
      have HXA := Aside0.mk hba
      clear hw hao hba hkp hbb
      go_wp2_with fail
      refine (win_counts HX.out).mono ?_
      rintro e w5 ⟨rfl, hb⟩
      have HB5 := Aside0.mk (below_step HB4.out hb)
      have HX2 := Aside0.mk (HX.out.below hb)
      clear HX HB4 hb
      have HX := HX2
      clear HX2
      go_wp2_with fail
      refine (win_room HX.out).mono ?_
      rintro e w6 ⟨rfl, hb⟩
      have HB6 := Aside0.mk (below_step HB5.out hb)
      have HX2 := Aside0.mk (HX.out.below hb)
      clear HX HB5 hb
      have HX := HX2
      clear HX2
      go_wp2_with fail
      refine (win_clear HX.out w.heap.size (by have := HGE.out; omega)).mono ?_
      rintro e w7 ⟨rfl, hw, hkp, hbb⟩
      have HB7 := Aside0.mk (Below.trans HB6.out hbb)
      clear HX HB6
      have HX := Aside0.mk hw
      clear hw hkp hbb
      go_wp2_with fail
      refine (win_add HX.out Ab cb w.heap.size b (by have := HGE.out; omega) (fun k hk => by cases hk; exact HGE.out) HXA.out (Kd.C_below HRB.out HB7.out) (fun hp ad e => by have hq := far_of HRB.out hp ad e; have := HGE.out; exact ⟨by omega, fun hm => by injection hm with hm; omega⟩) (by have := HP.out.2.1.1; exact Nat.le_trans this (by decide)) (by have := HLB.out; omega) (by have := HP.out.2.1.2; exact Nat.le_trans this (by decide))).mono ?_
      rintro e w8 ⟨rfl, Ax8, hw, hao, hba, hkp, hbb⟩
      have HB8 := Aside0.mk (Below.trans HB7.out hbb)
      clear HX HXA HB7
      have HX := Aside0.mk hw
      have HXA := Aside0.mk hba
      clear hw hao hba hkp hbb
      go_wp2_with fail
      refine (win_add HX.out Aa ca w.heap.size a (by have := HGE.out; omega) (fun k hk => by cases hk; exact HGE.out) HXA.out (Kd.C_below HRA.out HB8.out) (fun hp ad e => by have hq := far_of HRA.out hp ad e; have := HGE.out; exact ⟨by omega, fun hm => by injection hm with hm; omega⟩) (by have := HP.out.2.2.1.1; omega) (by have := HLA.out; omega) (by have := HP.out.2.2.1.2; omega)).mono ?_
      rintro e w9 ⟨rfl, Ax9, hw, hao, hba, hkp, hbb⟩
      have HB9 := Aside0.mk (Below.trans HB8.out hbb)
      clear HX HXA HB8
      have HX := Aside0.mk hw
      have HXA := Aside0.mk hba
      clear hw hao hba hkp hbb
      have HQ := Aside0.mk HP.out.2.2.2
      have HP2 := Aside0.mk HP.out.2.1
      have HXL := Aside0.mk HX.out.le
      generalize addS (addS (clearS (addS (addS newS a) b)) b) a = st5 at HX HQ HXL
      generalize addS (addS newS a) b = st2 at HQ HP2 ⊢
      go_wp2_with fail
      refine (win_counts HX.out).mono ?_
      rintro e w10 ⟨rfl, hb⟩
      have HB10 := Aside0.mk (below_step HB9.out hb)
      have HX2 := Aside0.mk (HX.out.below hb)
      clear HX HB9 hb
      have HX := HX2
      clear HX2
      go_wp2_with fail
      refine (meter_new _).mono ?_
      rintro e w11 ⟨rfl, rfl⟩
      go_wp2_with fail
      refine (window_new (some w10.heap.size) _).mono ?_
      rintro e w11 ⟨rfl, rfl⟩
      have HM := Aside0.mk (show MAt (w10.alloc (.cells #[.int .i64 0, .int .i64 0, .int .i64 0, .int .i64 0] 46)) (some w10.heap.size) 0 0 0 0 from fun g hg => by cases hg; exact blk_new w10 _)
      have HY := Aside0.mk (win_new HM.out)
      have HX2 := Aside0.mk (HX.out.below (below_alloc (below_alloc (Below.refl _ _) (.cells #[.int .i64 0, .int .i64 0, .int .i64 0, .int .i64 0] 46)) (.cells #[.pointer (mp (some w10.heap.size)), .slice none 0 0, .int .i64 0] 48)))
      have HB11 := Aside0.mk (below_alloc (below_alloc HB10.out (.cells #[.int .i64 0, .int .i64 0, .int .i64 0, .int .i64 0] 46)) (.cells #[.pointer (mp (some w10.heap.size)), .slice none 0 0, .int .i64 0] 48))
      have HXG := Aside0.mk (show gm + 1 < w10.heap.size ∧ ∀ ad, Ax9 = some ad → ad.block < w10.heap.size from ⟨HX.out.lt, HX.out.alt⟩)
      rw [World.size_alloc] at HY ⊢
      generalize hw11 : (w10.alloc (.cells #[.int .i64 0, .int .i64 0, .int .i64 0, .int .i64 0] 46)).alloc (.cells #[.pointer (mp (some w10.heap.size)), .slice none 0 0, .int .i64 0] 48) = wy at HX2 HY HB11 ⊢
      generalize w10.heap.size = gn at HY HXG ⊢
      clear hw11 HM HB10 HX
      have HYL := Aside0.mk HY.out.lt
      have HO0 := Aside0.mk (Kd.R_nil (Kd.int .u8) 5 wy wy.heap.size (fun _ => True))
      have HRA2 := Aside0.mk (Kd.C_below HRA.out HB11.out)
      have HB0 := Aside0.mk (Below.refl wy.heap.size wy)
      go_wp2_with (first
        | (at_builtin; refine Kd.R_append_rows (Kd.int .u8) (w0 := wy) wy.heap.size rfl (.tmp 53) (.tmp 54) 31 5 (.int .u8 0) 1 rfl Try.underlying31 info5 rfl (by decide) (by decide) (.slice none 0 0) ([] : List Int) a Aa a.length ca (fun _ => True) (fun _ => False) rfl rfl HO0.out HRA2.out (fun _ _ h => h) (fun _ h => h.elim) (fun _ _ => trivial) HB0.out (HB0.out.size) (by have := HLA.out; simp; omega) ?_; intro v1 w12 hr1 hb1 hg1 hat1; rw [List.nil_append] at hr1; obtain ⟨A1, c1, hv1⟩ := Kd.R_slice hr1; subst hv1; have HO1 := Aside0.mk hr1; have HB12 := Aside0.mk hb1; have HRB2 := Aside0.mk (Kd.C_below (Kd.C_below HRB.out HB11.out) (Below.mono HB12.out (Nat.le_refl _))); clear hr1 hb1 hg1 hat1)
        | (at_builtin; refine Kd.R_append_rows (Kd.int .u8) (w0 := wy) wy.heap.size rfl (.tmp 56) (.tmp 57) 31 5 (.int .u8 0) 1 rfl Try.underlying31 info5 rfl (by decide) (by decide) (.slice A1 a.length c1) a b Ab b.length cb (fun _ => True) (fun _ => False) rfl rfl HO1.out HRB2.out (fun _ _ h => h) (fun _ h => h.elim) (fun _ _ => trivial) HB12.out (HB12.out.size) (by have := HLA.out; have := HLB.out; omega) ?_; intro v2 w13 hr2 hb2 hg2 hat2; obtain ⟨LL, hLL⟩ : ∃ X, X = a ++ b := ⟨_, rfl⟩; rw [← hLL] at hr2; have HLL := Aside0.mk hLL; obtain ⟨A2, c2, hv2⟩ := Kd.R_slice hr2; subst hv2; have HO2 := Aside0.mk hr2; have HB13 := Aside0.mk hb2; clear hr2 hb2 hg2 hat2 hLL)
        | fail)
      have HLN := Aside0.mk (show LL.length = a.length + b.length by rw [HLL.out, List.length_append])
      rw [← HLL.out] at HQ
      have HY2 := Aside0.mk (HY.out.below HB13.out)
      have HX3 := Aside0.mk (HX2.out.below HB13.out)
      have HBC := Aside0.mk (fun (ad : Addr) (e : A2 = some ad) => show wy.heap.size ≤ ad.block from Kd.R_base HO2.out ad.block (by rw [e]; rfl))
      have HB14 := Aside0.mk (Below.trans HB11.out (HB13.out.mono HB11.out.size))
      have HC2 := Aside0.mk (Kd.R_reads' HO2.out).2.2
      clear HX2 HY HO0 HO1 HRA2 HRB2 HB12
      refine (win_add HY2.out A2 c2 w.heap.size LL (by have := HB11.out.size; have := HYL.out; have := HGE.out; have := HXG.out.1; omega) (fun k hk => by cases hk; have := HGE.out; have := HXG.out.1; omega) (fun k hk => by cases hk) HC2.out (fun hp ad e => by have hq := HBC.out ad e; have := HYL.out; exact ⟨by omega, fun hm => by injection hm with hm; omega⟩) (by decide) (by rw [HLN.out]; have := HLA.out; have := HLB.out; omega) (by decide)).mono ?_
      rintro e wz ⟨rfl, Ay, hw, hao, hba, hkp, hbb⟩
      have HX := Aside0.mk (HX3.out.kept hkp (fun hs => by have := HXG.out.1; rcases hs with hs | hs | ⟨ad, h1, h2⟩; omega; (injection hs with hs; omega); cases h1) (fun k hk hs => by cases hk; have := HXG.out.1; rcases hs with hs | hs | ⟨ad, h1, h2⟩; omega; (injection hs with hs; omega); cases h1) (fun ad e hs => by have := HXG.out.2 ad e; rcases hs with hs | hs | ⟨ad, h1, h2⟩; omega; (injection hs with hs; omega); cases h1))
      have HRC := Aside0.mk (Kd.R_kept (Kd.R_bound HO2.out) hkp (fun k hk hs => by have := hk.2.1; have := HYL.out; rcases hs with hs | hs | ⟨ad, h1, h2⟩; omega; (injection hs with hs; omega); cases h1))
      have HCZ := Aside0.mk (Kd.R_reads' HRC.out).2.2
      have HYZ := Aside0.mk hw
      have HBZ := Aside0.mk (Below.trans HB14.out hbb)
      clear hw hao hba hkp hbb HX3 HY2 HO2 HRC HBC HC2 HB13 HB14 HB11 HYL
      generalize addS newS LL = yt at HYZ HQ
      skip
      have hw1 : wrap64 ((st5.mv : Int) - (st2.mv : Int)) = ((a.length + b.length : Nat) : Int) := by have := HQ.out.1; have := HLA.out; have := HLB.out; unfold wrap64; omega
      have hw1' : IntKind.i64.wrap ((st5.mv : Int) - (st2.mv : Int)) = ((a.length + b.length : Nat) : Int) := by have := HQ.out.1; have := HLA.out; have := HLB.out; rw [IntKind.wrap_i64]; omega
      have hw2 : wrap64 ((a.length : Int) + (b.length : Int)) = ((a.length + b.length : Nat) : Int) := by have := HLA.out; have := HLB.out; unfold wrap64; omega
      have hw2' : IntKind.i64.wrap ((a.length : Int) + (b.length : Int)) = ((a.length + b.length : Nat) : Int) := by have := HLA.out; have := HLB.out; rw [IntKind.wrap_i64]; omega
      have HYH := Aside0.mk HQ.out.2.2.1
      have HYR := Aside0.mk (show yt.room ≤ 100000 by have := HQ.out.2.2.2.1; have := HP2.out; omega)
      have g1 : st5.room = st2.room := HQ.out.1.1
      have g2 : yt.mv = LL.length := HQ.out.2.1
      have hab : a.length + b.length = LL.length := HLN.out.symm
      rw [hab] at hw1 hw1' hw2 hw2'
      by_cases hL0 : LL.length = 0
      · have r1 : ((LL.length : Int) == 0) = true := by simpa using hL0
        have hyx : yt.room ≤ max st2.room 16 := HQ.out.2.2.2.1
        have r2 : decide ((yt.room : Int) ≤ (if (st2.room : Int) < 16 then 16 else (st2.room : Int))) = true := decide_eq_true (by split <;> omega)
        have HG1 := Aside0.mk g1
        clear hyx hab hL0
        go_wp2_with fail
        have PB : Below wz.heap.size wz wz.drew := (Below.refl wz.heap.size wz).drew
        have hcc := Kd.C_string (P := Try.prog) (A := A2) (c := c2) Try.underlying31 Try.underlying5 Try.underlying9 (Kd.C_below HCZ.out PB)
        refine wp_region_held_drew (S := fun w' => (convert 31 9 (.slice A2 LL.length c2)).run Try.prog w' = .ok (.string (strOfNums LL)) w') (by kernel_rfl) hcc (fun hHeld => ?_)
        refine wpAnyH_take (i := 0) (oi := { dst := some 62, op := Op.move (Operand.tmp 10), type := 3, pos := "law.go:159", after := #[], guard := none }) (v := ?_) rfl (by kernel_rfl) (by kernel_rfl) (by kernel_rfl) (fun _ _ _ h => h) (Or.inl ⟨by rfl, ?_⟩) (by assumption) ?_
        rotate_left 1
        · intro w hSw
          (try dsimp only at hSw)
          go_simp
          all_goals try with_reducible rfl
        try simp only [Act.put, List.setIfInBounds_toArray, List.set_cons_zero, List.set_cons_succ]
        refine wpAnyH_take (i := 1) (oi := { dst := some 63, op := Op.move (Operand.tmp 8), type := 3, pos := "law.go:159", after := #[], guard := none }) (v := ?_) rfl (by kernel_rfl) (by kernel_rfl) (by kernel_rfl) (fun _ _ _ h => h) (Or.inl ⟨by rfl, ?_⟩) (by assumption) ?_
        rotate_left 1
        · intro w hSw
          (try dsimp only at hSw)
          go_simp
          all_goals try with_reducible rfl
        try simp only [Act.put, List.setIfInBounds_toArray, List.set_cons_zero, List.set_cons_succ]
        refine wpAnyH_take (i := 2) (oi := { dst := some 64, op := Op.binOp BinOp.sub 3 (Operand.tmp 62) (Operand.tmp 63) 3, type := 3, pos := "law.go:159", after := #[{ on := 0, ground := Ground.data }, { on := 1, ground := Ground.data }], guard := none }) (v := ?_) rfl (by kernel_rfl) (by kernel_rfl) (by kernel_rfl) (fun _ _ _ h => h) (Or.inl ⟨by rfl, ?_⟩) (by assumption) ?_
        rotate_left 1
        · intro w hSw
          (try dsimp only at hSw)
          go_simp
          all_goals try with_reducible rfl
        try simp only [Act.put, List.setIfInBounds_toArray, List.set_cons_zero, List.set_cons_succ]
        refine wpAnyH_take (i := 3) (oi := { dst := some 65, op := Op.move (Operand.tmp 0), type := 31, pos := "law.go:159", after := #[], guard := none }) (v := ?_) rfl (by kernel_rfl) (by kernel_rfl) (by kernel_rfl) (fun _ _ _ h => h) (Or.inl ⟨by rfl, ?_⟩) (by assumption) ?_
        rotate_left 1
        · intro w hSw
          (try dsimp only at hSw)
          go_simp
          all_goals try with_reducible rfl
        try simp only [Act.put, List.setIfInBounds_toArray, List.set_cons_zero, List.set_cons_succ]
        refine wpAnyH_take (i := 4) (oi := { dst := some 66, op := Op.call { callee := Callee.builtin Builtin.len, args := #[Operand.tmp 65], argTypes := #[31] }, type := 3, pos := "law.go:159", after := #[{ on := 3, ground := Ground.data }], guard := none }) (v := ?_) rfl (by kernel_rfl) (by kernel_rfl) (by kernel_rfl) (fun _ _ _ h => h) (Or.inl ⟨by rfl, ?_⟩) (by assumption) ?_
        rotate_left 1
        · intro w hSw
          (try dsimp only at hSw)
          go_simp
          all_goals try with_reducible rfl
        try simp only [Act.put, List.setIfInBounds_toArray, List.set_cons_zero, List.set_cons_succ]
        refine wpAnyH_take (i := 5) (oi := { dst := some 67, op := Op.move (Operand.tmp 1), type := 31, pos := "law.go:159", after := #[], guard := none }) (v := ?_) rfl (by kernel_rfl) (by kernel_rfl) (by kernel_rfl) (fun _ _ _ h => h) (Or.inl ⟨by rfl, ?_⟩) (by assumption) ?_
        rotate_left 1
        · intro w hSw
          (try dsimp only at hSw)
          go_simp
          all_goals try with_reducible rfl
        try simp only [Act.put, List.setIfInBounds_toArray, List.set_cons_zero, List.set_cons_succ]
        refine wpAnyH_take (i := 6) (oi := { dst := some 68, op := Op.call { callee := Callee.builtin Builtin.len, args := #[Operand.tmp 67], argTypes := #[31] }, type := 3, pos := "law.go:159", after := #[{ on := 5, ground := Ground.data }], guard := none }) (v := ?_) rfl (by kernel_rfl) (by kernel_rfl) (by kernel_rfl) (fun _ _ _ h => h) (Or.inl ⟨by rfl, ?_⟩) (by assumption) ?_
        rotate_left 1
        · intro w hSw
          (try dsimp only at hSw)
          go_simp
          all_goals try with_reducible rfl
        try simp only [Act.put, List.setIfInBounds_toArray, List.set_cons_zero, List.set_cons_succ]
        refine wpAnyH_take (i := 7) (oi := { dst := some 69, op := Op.binOp BinOp.add 3 (Operand.tmp 66) (Operand.tmp 68) 3, type := 3, pos := "law.go:159", after := #[{ on := 4, ground := Ground.data }, { on := 6, ground := Ground.data }], guard := none }) (v := ?_) rfl (by kernel_rfl) (by kernel_rfl) (by kernel_rfl) (fun _ _ _ h => h) (Or.inl ⟨by rfl, ?_⟩) (by assumption) ?_
        rotate_left 1
        · intro w hSw
          (try dsimp only at hSw)
          go_simp
          all_goals try with_reducible rfl
        try simp only [Act.put, List.setIfInBounds_toArray, List.set_cons_zero, List.set_cons_succ]
        refine wpAnyH_take (i := 8) (oi := { dst := some 70, op := Op.binOp BinOp.eql 3 (Operand.tmp 64) (Operand.tmp 69) 3, type := 4, pos := "law.go:159", after := #[{ on := 2, ground := Ground.data }, { on := 7, ground := Ground.data }], guard := none }) (v := ?_) rfl (by kernel_rfl) (by kernel_rfl) (by kernel_rfl) (fun _ _ _ h => h) (Or.inl ⟨by rfl, ?_⟩) (by assumption) ?_
        rotate_left 1
        · intro w hSw
          (try dsimp only at hSw)
          go_simp
          all_goals try with_reducible rfl
        try simp only [Act.put, List.setIfInBounds_toArray, List.set_cons_zero, List.set_cons_succ]
        refine wpAnyH_take (i := 9) (oi := { dst := some 71, op := Op.move (Operand.tmp 70), type := 4, pos := "law.go:159", after := #[{ on := 8, ground := Ground.data }], guard := none }) (v := ?_) rfl (by kernel_rfl) (by kernel_rfl) (by kernel_rfl) (fun _ _ _ h => h) (Or.inl ⟨by rfl, ?_⟩) (by assumption) ?_
        rotate_left 1
        · intro w hSw
          (try dsimp only at hSw)
          go_simp
          all_goals try with_reducible rfl
        try simp only [Act.put, List.setIfInBounds_toArray, List.set_cons_zero, List.set_cons_succ]
        refine wpAnyH_take (i := 10) (oi := { dst := some 72, op := Op.move (Operand.tmp 7), type := 27, pos := "law.go:159", after := #[{ on := 9, ground := Ground.guard }], guard := some (9, true) }) (v := ?_) rfl (by kernel_rfl) (by kernel_rfl) (by kernel_rfl) (fun _ _ _ h => h) (Or.inl ⟨by go_simp, ?_⟩) (by assumption) ?_
        rotate_left 1
        · intro w hSw
          (try dsimp only at hSw)
          go_simp
          all_goals try with_reducible rfl
        try simp only [Act.put, List.setIfInBounds_toArray, List.set_cons_zero, List.set_cons_succ]
        refine wpAnyH_take (i := 12) (oi := { dst := some 74, op := Op.move (Operand.tmp 9), type := 3, pos := "law.go:159", after := #[{ on := 9, ground := Ground.guard }], guard := some (9, true) }) (v := ?_) rfl (by kernel_rfl) (by kernel_rfl) (by kernel_rfl) (fun _ _ _ h => h) (Or.inl ⟨by go_simp, ?_⟩) (by assumption) ?_
        rotate_left 1
        · intro w hSw
          (try dsimp only at hSw)
          go_simp
          all_goals try with_reducible rfl
        try simp only [Act.put, List.setIfInBounds_toArray, List.set_cons_zero, List.set_cons_succ]
        refine wpAnyH_ready (rs := [11]) (by kernel_rfl) (by simp) ?_
        refine AllReadyH.cons (o := { dst := some 73, op := Op.call { callee := Callee.value (Operand.func 17), args := #[Operand.tmp 72], argTypes := #[27] }, type := 3, pos := "law.go:159", after := #[{ on := 10, ground := Ground.data }, { on := 9, ground := Ground.chain }, { on := 9, ground := Ground.guard }], guard := some (9, true) }) rfl (fun K hK => ?_) AllReadyH.nil
        clear hHeld
        go_simp
        refine (win_room (HX.out.below PB)).mono ?_
        rintro e wj ⟨rfl, hb'⟩
        have PB' := below_step PB hb'
        clear PB
        have PB := PB'
        clear PB' hb' hcc
        have hcc := Kd.C_string (P := Try.prog) (A := A2) (c := c2) Try.underlying31 Try.underlying5 Try.underlying9 (Kd.C_below HCZ.out PB)
        refine hK.out _ _ hcc (fun hHeld => ?_)
        clear hK K
        try simp only [Act.put, List.setIfInBounds_toArray, List.set_cons_zero, List.set_cons_succ]
        refine wpAnyH_take (i := 13) (oi := { dst := some 75, op := Op.binOp BinOp.eql 3 (Operand.tmp 73) (Operand.tmp 74) 3, type := 4, pos := "law.go:159", after := #[{ on := 11, ground := Ground.data }, { on := 12, ground := Ground.data }, { on := 9, ground := Ground.guard }], guard := some (9, true) }) (v := ?_) rfl (by kernel_rfl) (by kernel_rfl) (by kernel_rfl) (fun _ _ _ h => h) (Or.inl ⟨by go_simp, ?_⟩) (by assumption) ?_
        rotate_left 1
        · intro w hSw
          (try dsimp only at hSw)
          go_simp
          all_goals try with_reducible rfl
        try simp only [Act.put, List.setIfInBounds_toArray, List.set_cons_zero, List.set_cons_succ]
        refine wpAnyH_take (i := 14) (oi := { dst := some 76, op := Op.pick (Operand.tmp 71) (Operand.tmp 75) (Operand.const (Value.bool false)), type := 4, pos := "law.go:159", after := #[{ on := 9, ground := Ground.data }, { on := 13, ground := Ground.data }], guard := none }) (v := ?_) rfl (by kernel_rfl) (by kernel_rfl) (by kernel_rfl) (fun _ _ _ h => h) (Or.inl ⟨by rfl, ?_⟩) (by assumption) ?_
        rotate_left 1
        · intro w hSw
          (try dsimp only at hSw)
          go_simp
          all_goals try with_reducible rfl
        try simp only [Act.put, List.setIfInBounds_toArray, List.set_cons_zero, List.set_cons_succ]
        refine wpAnyH_take (i := 15) (oi := { dst := some 77, op := Op.move (Operand.tmp 76), type := 4, pos := "law.go:159", after := #[{ on := 14, ground := Ground.data }, { on := 11, ground := Ground.chain }], guard := none }) (v := ?_) rfl (by kernel_rfl) (by kernel_rfl) (by kernel_rfl) (fun _ _ _ h => h) (Or.inl ⟨by rfl, ?_⟩) (by assumption) ?_
        rotate_left 1
        · intro w hSw
          (try dsimp only at hSw)
          go_simp
          all_goals try with_reducible rfl
        try simp only [Act.put, List.setIfInBounds_toArray, List.set_cons_zero, List.set_cons_succ]
        refine wpAnyH_take (i := 16) (oi := { dst := some 78, op := Op.move (Operand.tmp 11), type := 25, pos := "law.go:159", after := #[{ on := 15, ground := Ground.guard }], guard := some (15, true) }) (v := ?_) rfl (by kernel_rfl) (by kernel_rfl) (by kernel_rfl) (fun _ _ _ h => h) (Or.inl ⟨by go_simp, ?_⟩) (by assumption) ?_
        rotate_left 1
        · intro w hSw
          (try dsimp only at hSw)
          go_simp
          all_goals try with_reducible rfl
        try simp only [Act.put, List.setIfInBounds_toArray, List.set_cons_zero, List.set_cons_succ]
        refine wpAnyH_take (i := 19) (oi := { dst := some 81, op := Op.move (Operand.tmp 13), type := 31, pos := "law.go:159", after := #[{ on := 15, ground := Ground.guard }], guard := some (15, true) }) (v := ?_) rfl (by kernel_rfl) (by kernel_rfl) (by kernel_rfl) (fun _ _ _ h => h) (Or.inl ⟨by go_simp, ?_⟩) (by assumption) ?_
        rotate_left 1
        · intro w hSw
          (try dsimp only at hSw)
          go_simp
          all_goals try with_reducible rfl
        try simp only [Act.put, List.setIfInBounds_toArray, List.set_cons_zero, List.set_cons_succ]
        refine wpAnyH_take (i := 20) (oi := { dst := some 82, op := Op.call { callee := Callee.builtin Builtin.len, args := #[Operand.tmp 81], argTypes := #[31] }, type := 3, pos := "law.go:159", after := #[{ on := 19, ground := Ground.data }, { on := 15, ground := Ground.guard }], guard := some (15, true) }) (v := ?_) rfl (by kernel_rfl) (by kernel_rfl) (by kernel_rfl) (fun _ _ _ h => h) (Or.inl ⟨by go_simp, ?_⟩) (by assumption) ?_
        rotate_left 1
        · intro w hSw
          (try dsimp only at hSw)
          go_simp
          all_goals try with_reducible rfl
        try simp only [Act.put, List.setIfInBounds_toArray, List.set_cons_zero, List.set_cons_succ]
        refine wpAnyH_ready (rs := [17]) (by kernel_rfl) (by simp) ?_
        refine AllReadyH.cons (o := { dst := some 79, op := Op.call { callee := Callee.value (Operand.func 18), args := #[Operand.tmp 78], argTypes := #[25] }, type := 40, pos := "law.go:159", after := #[{ on := 16, ground := Ground.data }, { on := 15, ground := Ground.chain }, { on := 15, ground := Ground.guard }], guard := some (15, true) }) rfl (fun K hK => ?_) AllReadyH.nil
        clear hHeld
        go_simp
        refine (win_counts (HYZ.out.below PB)).mono ?_
        rintro e wj ⟨rfl, hb'⟩
        have PB' := below_step PB hb'
        clear PB
        have PB := PB'
        clear PB' hb' hcc
        have hcc := Kd.C_string (P := Try.prog) (A := A2) (c := c2) Try.underlying31 Try.underlying5 Try.underlying9 (Kd.C_below HCZ.out PB)
        refine hK.out _ _ hcc (fun hHeld => ?_)
        clear hK K
        try simp only [Act.put, List.setIfInBounds_toArray, List.set_cons_zero, List.set_cons_succ]
        refine wpAnyH_take (i := 18) (oi := { dst := some 80, op := Op.field 40 (Operand.tmp 79) 3, type := 3, pos := "law.go:159", after := #[{ on := 17, ground := Ground.data }, { on := 15, ground := Ground.guard }], guard := some (15, true) }) (v := ?_) rfl (by kernel_rfl) (by kernel_rfl) (by kernel_rfl) (fun _ _ _ h => h) (Or.inl ⟨by go_simp, ?_⟩) (by assumption) ?_
        rotate_left 1
        · intro w hSw
          (try dsimp only at hSw)
          go_simp
          all_goals try with_reducible rfl
        try simp only [Act.put, List.setIfInBounds_toArray, List.set_cons_zero, List.set_cons_succ]
        refine wpAnyH_take (i := 21) (oi := { dst := some 83, op := Op.binOp BinOp.eql 3 (Operand.tmp 80) (Operand.tmp 82) 3, type := 4, pos := "law.go:159", after := #[{ on := 18, ground := Ground.data }, { on := 20, ground := Ground.data }, { on := 15, ground := Ground.guard }], guard := some (15, true) }) (v := ?_) rfl (by kernel_rfl) (by kernel_rfl) (by kernel_rfl) (fun _ _ _ h => h) (Or.inl ⟨by go_simp, ?_⟩) (by assumption) ?_
        rotate_left 1
        · intro w hSw
          (try dsimp only at hSw)
          go_simp
          all_goals try with_reducible rfl
        try simp only [Act.put, List.setIfInBounds_toArray, List.set_cons_zero, List.set_cons_succ]
        refine wpAnyH_take (i := 22) (oi := { dst := some 84, op := Op.pick (Operand.tmp 77) (Operand.tmp 83) (Operand.const (Value.bool false)), type := 4, pos := "law.go:159", after := #[{ on := 15, ground := Ground.data }, { on := 21, ground := Ground.data }], guard := none }) (v := ?_) rfl (by kernel_rfl) (by kernel_rfl) (by kernel_rfl) (fun _ _ _ h => h) (Or.inl ⟨by rfl, ?_⟩) (by assumption) ?_
        rotate_left 1
        · intro w hSw
          (try dsimp only at hSw)
          go_simp
          all_goals try with_reducible rfl
        try simp only [Act.put, List.setIfInBounds_toArray, List.set_cons_zero, List.set_cons_succ]
        refine wpAnyH_take (i := 23) (oi := { dst := some 85, op := Op.move (Operand.tmp 84), type := 4, pos := "law.go:159", after := #[{ on := 22, ground := Ground.data }, { on := 17, ground := Ground.chain }], guard := none }) (v := ?_) rfl (by kernel_rfl) (by kernel_rfl) (by kernel_rfl) (fun _ _ _ h => h) (Or.inl ⟨by rfl, ?_⟩) (by assumption) ?_
        rotate_left 1
        · intro w hSw
          (try dsimp only at hSw)
          go_simp
          all_goals try with_reducible rfl
        try simp only [Act.put, List.setIfInBounds_toArray, List.set_cons_zero, List.set_cons_succ]
        refine wpAnyH_take (i := 24) (oi := { dst := some 86, op := Op.move (Operand.tmp 12), type := 27, pos := "law.go:159", after := #[{ on := 23, ground := Ground.guard }], guard := some (23, true) }) (v := ?_) rfl (by kernel_rfl) (by kernel_rfl) (by kernel_rfl) (fun _ _ _ h => h) (Or.inl ⟨by go_simp, ?_⟩) (by assumption) ?_
        rotate_left 1
        · intro w hSw
          (try dsimp only at hSw)
          go_simp
          all_goals try with_reducible rfl
        try simp only [Act.put, List.setIfInBounds_toArray, List.set_cons_zero, List.set_cons_succ]
        refine wpAnyH_take (i := 27) (oi := { dst := some 89, op := Op.move (Operand.tmp 13), type := 31, pos := "law.go:159", after := #[{ on := 23, ground := Ground.guard }], guard := some (23, true) }) (v := ?_) rfl (by kernel_rfl) (by kernel_rfl) (by kernel_rfl) (fun _ _ _ h => h) (Or.inl ⟨by go_simp, ?_⟩) (by assumption) ?_
        rotate_left 1
        · intro w hSw
          (try dsimp only at hSw)
          go_simp
          all_goals try with_reducible rfl
        try simp only [Act.put, List.setIfInBounds_toArray, List.set_cons_zero, List.set_cons_succ]
        refine wpAnyH_take (i := 28) (oi := { dst := some 90, op := Op.convert 31 9 (Operand.tmp 89), type := 9, pos := "law.go:159", after := #[{ on := 27, ground := Ground.data }, { on := 23, ground := Ground.guard }], guard := some (23, true) }) (v := ?_) rfl (by kernel_rfl) (by kernel_rfl) (by kernel_rfl) (fun _ _ _ h => h) (Or.inl ⟨by go_simp, ?_⟩) (by assumption) ?_
        rotate_left 1
        · intro w hSw
          (try dsimp only at hSw)
          go_simp
          all_goals try with_reducible rfl
        try simp only [Act.put, List.setIfInBounds_toArray, List.set_cons_zero, List.set_cons_succ]
        refine wpAnyH_ready (rs := [25]) (by kernel_rfl) (by simp) ?_
        refine AllReadyH.cons (o := { dst := some 87, op := Op.call { callee := Callee.value (Operand.func 15), args := #[Operand.tmp 86], argTypes := #[27] }, type := 31, pos := "law.go:159", after := #[{ on := 24, ground := Ground.data }, { on := 23, ground := Ground.chain }, { on := 23, ground := Ground.guard }], guard := some (23, true) }) rfl (fun K hK => ?_) AllReadyH.nil
        clear hHeld
        go_simp
        refine (win_bytes (HYZ.out.below PB) (by have := HYR.out; omega)).mono ?_
        rintro e wj ⟨vb, rfl, hrb, hb'⟩
        rw [HYH.out] at hrb
        obtain ⟨A4, c4, hv4, hd4, hC4⟩ := Kd.R_reads hrb
        subst hv4
        have hcv4 := Kd.C_string (P := Try.prog) (A := A4) (c := c4) Try.underlying31 Try.underlying5 Try.underlying9 hC4
        clear hrb hd4 hC4
        have PB' := below_step PB hb'
        clear PB
        have PB := PB'
        clear PB' hb' hcc
        have hcc := Kd.C_string (P := Try.prog) (A := A2) (c := c2) Try.underlying31 Try.underlying5 Try.underlying9 (Kd.C_below HCZ.out PB)
        refine hK.out _ _ hcc (fun hHeld => ?_)
        clear hK K
        try simp only [Act.put, List.setIfInBounds_toArray, List.set_cons_zero, List.set_cons_succ]
        refine wpAnyH_ready (rs := [26]) (by kernel_rfl) (by simp) ?_
        refine AllReadyH.cons (o := { dst := some 88, op := Op.convert 31 9 (Operand.tmp 87), type := 9, pos := "law.go:159", after := #[{ on := 25, ground := Ground.data }, { on := 23, ground := Ground.guard }], guard := some (23, true) }) rfl (fun K hK => ?_) AllReadyH.nil
        clear hHeld
        go_simp
        refine hK.out _ _ hcc (fun hHeld => ?_)
        clear hK K
        try simp only [Act.put, List.setIfInBounds_toArray, List.set_cons_zero, List.set_cons_succ]
        refine wpAnyH_take (i := 29) (oi := { dst := some 91, op := Op.binOp BinOp.eql 9 (Operand.tmp 88) (Operand.tmp 90) 9, type := 4, pos := "law.go:159", after := #[{ on := 26, ground := Ground.data }, { on := 28, ground := Ground.data }, { on := 23, ground := Ground.guard }], guard := some (23, true) }) (v := ?_) rfl (by kernel_rfl) (by kernel_rfl) (by kernel_rfl) (fun _ _ _ h => h) (Or.inl ⟨by go_simp, ?_⟩) (by assumption) ?_
        rotate_left 1
        · intro w hSw
          (try dsimp only at hSw)
          go_simp
          all_goals try with_reducible rfl
        try simp only [Act.put, List.setIfInBounds_toArray, List.set_cons_zero, List.set_cons_succ]
        refine wpAnyH_take (i := 30) (oi := { dst := some 92, op := Op.pick (Operand.tmp 85) (Operand.tmp 91) (Operand.const (Value.bool false)), type := 4, pos := "law.go:159", after := #[{ on := 23, ground := Ground.data }, { on := 29, ground := Ground.data }], guard := none }) (v := ?_) rfl (by kernel_rfl) (by kernel_rfl) (by kernel_rfl) (fun _ _ _ h => h) (Or.inl ⟨by rfl, ?_⟩) (by assumption) ?_
        rotate_left 1
        · intro w hSw
          (try dsimp only at hSw)
          go_simp
          all_goals try with_reducible rfl
        try simp only [Act.put, List.setIfInBounds_toArray, List.set_cons_zero, List.set_cons_succ]
        refine wpAnyH_take (i := 31) (oi := { dst := some 93, op := Op.move (Operand.tmp 92), type := 4, pos := "law.go:159", after := #[{ on := 30, ground := Ground.data }, { on := 25, ground := Ground.chain }], guard := none }) (v := ?_) rfl (by kernel_rfl) (by kernel_rfl) (by kernel_rfl) (fun _ _ _ h => h) (Or.inl ⟨by rfl, ?_⟩) (by assumption) ?_
        rotate_left 1
        · intro w hSw
          (try dsimp only at hSw)
          go_simp
          all_goals try with_reducible rfl
        try simp only [Act.put, List.setIfInBounds_toArray, List.set_cons_zero, List.set_cons_succ]
        refine wpAnyH_take (i := 32) (oi := { dst := some 94, op := Op.move (Operand.tmp 12), type := 27, pos := "law.go:159", after := #[{ on := 31, ground := Ground.guard }], guard := some (31, true) }) (v := ?_) rfl (by kernel_rfl) (by kernel_rfl) (by kernel_rfl) (fun _ _ _ h => h) (Or.inl ⟨by go_simp, ?_⟩) (by assumption) ?_
        rotate_left 1
        · intro w hSw
          (try dsimp only at hSw)
          go_simp
          all_goals try with_reducible rfl
        try simp only [Act.put, List.setIfInBounds_toArray, List.set_cons_zero, List.set_cons_succ]
        refine wpAnyH_take (i := 34) (oi := { dst := some 96, op := Op.move (Operand.tmp 9), type := 3, pos := "law.go:159", after := #[{ on := 31, ground := Ground.guard }], guard := some (31, true) }) (v := ?_) rfl (by kernel_rfl) (by kernel_rfl) (by kernel_rfl) (fun _ _ _ h => h) (Or.inl ⟨by go_simp, ?_⟩) (by assumption) ?_
        rotate_left 1
        · intro w hSw
          (try dsimp only at hSw)
          go_simp
          all_goals try with_reducible rfl
        try simp only [Act.put, List.setIfInBounds_toArray, List.set_cons_zero, List.set_cons_succ]
        refine wpAnyH_take (i := 35) (oi := { dst := some 97, op := Op.call { callee := Callee.builtin Builtin.max, args := #[Operand.tmp 96, Operand.const (Value.int IntKind.i64 16)], argTypes := #[3, 3] }, type := 3, pos := "law.go:159", after := #[{ on := 34, ground := Ground.data }, { on := 31, ground := Ground.guard }], guard := some (31, true) }) (v := ?_) rfl (by kernel_rfl) (by kernel_rfl) (by kernel_rfl) (fun _ _ _ h => h) (Or.inl ⟨by go_simp, ?_⟩) (by assumption) ?_
        rotate_left 1
        · intro w hSw
          (try dsimp only at hSw)
          go_simp
          all_goals try with_reducible rfl
        try simp only [Act.put, List.setIfInBounds_toArray, List.set_cons_zero, List.set_cons_succ]
        refine wpAnyH_ready (rs := [33]) (by kernel_rfl) (by simp) ?_
        refine AllReadyH.cons (o := { dst := some 95, op := Op.call { callee := Callee.value (Operand.func 17), args := #[Operand.tmp 94], argTypes := #[27] }, type := 3, pos := "law.go:159", after := #[{ on := 32, ground := Ground.data }, { on := 31, ground := Ground.chain }, { on := 31, ground := Ground.guard }], guard := some (31, true) }) rfl (fun K hK => ?_) AllReadyH.nil
        clear hHeld
        go_simp
        refine (win_room (HYZ.out.below PB)).mono ?_
        rintro e wj ⟨rfl, hb'⟩
        have PB' := below_step PB hb'
        clear PB
        have PB := PB'
        clear PB' hb' hcc
        have hcc := Kd.C_string (P := Try.prog) (A := A2) (c := c2) Try.underlying31 Try.underlying5 Try.underlying9 (Kd.C_below HCZ.out PB)
        refine hK.out _ _ hcc (fun hHeld => ?_)
        clear hK K
        try simp only [Act.put, List.setIfInBounds_toArray, List.set_cons_zero, List.set_cons_succ]
        refine wpAnyH_take (i := 36) (oi := { dst := some 98, op := Op.binOp BinOp.leq 3 (Operand.tmp 95) (Operand.tmp 97) 3, type := 4, pos := "law.go:159", after := #[{ on := 33, ground := Ground.data }, { on := 35, ground := Ground.data }, { on := 31, ground := Ground.guard }], guard := some (31, true) }) (v := ?_) rfl (by kernel_rfl) (by kernel_rfl) (by kernel_rfl) (fun _ _ _ h => h) (Or.inl ⟨by go_simp, ?_⟩) (by assumption) ?_
        rotate_left 1
        · intro w hSw
          (try dsimp only at hSw)
          go_simp
          all_goals try with_reducible rfl
        try simp only [Act.put, List.setIfInBounds_toArray, List.set_cons_zero, List.set_cons_succ]
        refine wpAnyH_take (i := 37) (oi := { dst := some 99, op := Op.pick (Operand.tmp 93) (Operand.tmp 98) (Operand.const (Value.bool false)), type := 4, pos := "law.go:159", after := #[{ on := 31, ground := Ground.data }, { on := 36, ground := Ground.data }], guard := none }) (v := ?_) rfl (by kernel_rfl) (by kernel_rfl) (by kernel_rfl) (fun _ _ _ h => h) (Or.inl ⟨by rfl, ?_⟩) (by assumption) ?_
        rotate_left 1
        · intro w hSw
          (try dsimp only at hSw)
          go_simp
          all_goals try with_reducible rfl
        try simp only [Act.put, List.setIfInBounds_toArray, List.set_cons_zero, List.set_cons_succ]
        refine wpAnyH_take (i := 38) (oi := { dst := some 100, op := Op.move (Operand.tmp 99), type := 4, pos := "law.go:159", after := #[{ on := 37, ground := Ground.data }, { on := 33, ground := Ground.chain }], guard := none }) (v := ?_) rfl (by kernel_rfl) (by kernel_rfl) (by kernel_rfl) (fun _ _ _ h => h) (Or.inl ⟨by rfl, ?_⟩) (by assumption) ?_
        rotate_left 1
        · intro w hSw
          (try dsimp only at hSw)
          go_simp
          all_goals try with_reducible rfl
        try simp only [Act.put, List.setIfInBounds_toArray, List.set_cons_zero, List.set_cons_succ]
        refine wpAnyH_take (i := 39) (oi := { dst := some 101, op := Op.move (Operand.tmp 13), type := 31, pos := "law.go:159", after := #[{ on := 38, ground := Ground.guard }], guard := some (38, true) }) (v := ?_) rfl (by kernel_rfl) (by kernel_rfl) (by kernel_rfl) (fun _ _ _ h => h) (Or.inl ⟨by go_simp, ?_⟩) (by assumption) ?_
        rotate_left 1
        · intro w hSw
          (try dsimp only at hSw)
          go_simp
          all_goals try with_reducible rfl
        try simp only [Act.put, List.setIfInBounds_toArray, List.set_cons_zero, List.set_cons_succ]
        refine wpAnyH_take (i := 40) (oi := { dst := some 102, op := Op.call { callee := Callee.builtin Builtin.len, args := #[Operand.tmp 101], argTypes := #[31] }, type := 3, pos := "law.go:159", after := #[{ on := 39, ground := Ground.data }, { on := 38, ground := Ground.guard }], guard := some (38, true) }) (v := ?_) rfl (by kernel_rfl) (by kernel_rfl) (by kernel_rfl) (fun _ _ _ h => h) (Or.inl ⟨by go_simp, ?_⟩) (by assumption) ?_
        rotate_left 1
        · intro w hSw
          (try dsimp only at hSw)
          go_simp
          all_goals try with_reducible rfl
        try simp only [Act.put, List.setIfInBounds_toArray, List.set_cons_zero, List.set_cons_succ]
        refine wpAnyH_take (i := 41) (oi := { dst := some 103, op := Op.binOp BinOp.eql 3 (Operand.tmp 102) (Operand.const (Value.int IntKind.i64 0)) 3, type := 4, pos := "law.go:159", after := #[{ on := 40, ground := Ground.data }, { on := 38, ground := Ground.guard }], guard := some (38, true) }) (v := ?_) rfl (by kernel_rfl) (by kernel_rfl) (by kernel_rfl) (fun _ _ _ h => h) (Or.inl ⟨by go_simp, ?_⟩) (by assumption) ?_
        rotate_left 1
        · intro w hSw
          (try dsimp only at hSw)
          go_simp
          all_goals try with_reducible rfl
        try simp only [Act.put, List.setIfInBounds_toArray, List.set_cons_zero, List.set_cons_succ]
        refine wpAnyH_take (i := 42) (oi := { dst := some 104, op := Op.move (Operand.tmp 103), type := 4, pos := "law.go:159", after := #[{ on := 41, ground := Ground.data }, { on := 38, ground := Ground.chain }, { on := 38, ground := Ground.guard }], guard := some (38, true) }) (v := ?_) rfl (by kernel_rfl) (by kernel_rfl) (by kernel_rfl) (fun _ _ _ h => h) (Or.inl ⟨by go_simp, ?_⟩) (by assumption) ?_
        rotate_left 1
        · intro w hSw
          (try dsimp only at hSw)
          go_simp
          all_goals try with_reducible rfl
        try simp only [Act.put, List.setIfInBounds_toArray, List.set_cons_zero, List.set_cons_succ]
        refine wpAnyH_take (i := 43) (oi := { dst := some 105, op := Op.move (Operand.tmp 12), type := 27, pos := "law.go:159", after := #[{ on := 42, ground := Ground.guard }], guard := some (42, false) }) (v := undef) rfl (by kernel_rfl) (by kernel_rfl) (by kernel_rfl) (fun _ _ _ h => h) (Or.inr ⟨by go_simp, rfl⟩) (by assumption) ?_
        try simp only [Act.put, List.setIfInBounds_toArray, List.set_cons_zero, List.set_cons_succ]
        refine wpAnyH_take (i := 44) (oi := { dst := some 106, op := Op.call { callee := Callee.value (Operand.func 17), args := #[Operand.tmp 105], argTypes := #[27] }, type := 3, pos := "law.go:159", after := #[{ on := 43, ground := Ground.data }, { on := 42, ground := Ground.chain }, { on := 42, ground := Ground.guard }], guard := some (42, false) }) (v := undef) rfl (by kernel_rfl) (by kernel_rfl) (by kernel_rfl) (fun _ _ _ h => h) (Or.inr ⟨by go_simp, rfl⟩) (by assumption) ?_
        try simp only [Act.put, List.setIfInBounds_toArray, List.set_cons_zero, List.set_cons_succ]
        refine wpAnyH_take (i := 45) (oi := { dst := some 107, op := Op.move (Operand.tmp 13), type := 31, pos := "law.go:159", after := #[{ on := 42, ground := Ground.guard }], guard := some (42, false) }) (v := undef) rfl (by kernel_rfl) (by kernel_rfl) (by kernel_rfl) (fun _ _ _ h => h) (Or.inr ⟨by go_simp, rfl⟩) (by assumption) ?_
        try simp only [Act.put, List.setIfInBounds_toArray, List.set_cons_zero, List.set_cons_succ]
        refine wpAnyH_take (i := 46) (oi := { dst := some 108, op := Op.call { callee := Callee.builtin Builtin.len, args := #[Operand.tmp 107], argTypes := #[31] }, type := 3, pos := "law.go:159", after := #[{ on := 45, ground := Ground.data }, { on := 42, ground := Ground.guard }], guard := some (42, false) }) (v := undef) rfl (by kernel_rfl) (by kernel_rfl) (by kernel_rfl) (fun _ _ _ h => h) (Or.inr ⟨by go_simp, rfl⟩) (by assumption) ?_
        try simp only [Act.put, List.setIfInBounds_toArray, List.set_cons_zero, List.set_cons_succ]
        refine wpAnyH_take (i := 47) (oi := { dst := some 109, op := Op.call { callee := Callee.builtin Builtin.max, args := #[Operand.tmp 108, Operand.const (Value.int IntKind.i64 16)], argTypes := #[3, 3] }, type := 3, pos := "law.go:159", after := #[{ on := 46, ground := Ground.data }, { on := 42, ground := Ground.guard }], guard := some (42, false) }) (v := undef) rfl (by kernel_rfl) (by kernel_rfl) (by kernel_rfl) (fun _ _ _ h => h) (Or.inr ⟨by go_simp, rfl⟩) (by assumption) ?_
        try simp only [Act.put, List.setIfInBounds_toArray, List.set_cons_zero, List.set_cons_succ]
        refine wpAnyH_take (i := 48) (oi := { dst := some 110, op := Op.binOp BinOp.eql 3 (Operand.tmp 106) (Operand.tmp 109) 3, type := 4, pos := "law.go:159", after := #[{ on := 44, ground := Ground.data }, { on := 47, ground := Ground.data }, { on := 42, ground := Ground.guard }], guard := some (42, false) }) (v := undef) rfl (by kernel_rfl) (by kernel_rfl) (by kernel_rfl) (fun _ _ _ h => h) (Or.inr ⟨by go_simp, rfl⟩) (by assumption) ?_
        try simp only [Act.put, List.setIfInBounds_toArray, List.set_cons_zero, List.set_cons_succ]
        refine wpAnyH_take (i := 49) (oi := { dst := some 111, op := Op.pick (Operand.tmp 104) (Operand.const (Value.bool true)) (Operand.tmp 110), type := 4, pos := "law.go:159", after := #[{ on := 42, ground := Ground.data }, { on := 48, ground := Ground.data }, { on := 38, ground := Ground.guard }], guard := some (38, true) }) (v := ?_) rfl (by kernel_rfl) (by kernel_rfl) (by kernel_rfl) (fun _ _ _ h => h) (Or.inl ⟨by go_simp, ?_⟩) (by assumption) ?_
        rotate_left 1
        · intro w hSw
          (try dsimp only at hSw)
          go_simp
          all_goals try with_reducible rfl
        try simp only [Act.put, List.setIfInBounds_toArray, List.set_cons_zero, List.set_cons_succ]
        refine wpAnyH_take (i := 50) (oi := { dst := some 112, op := Op.pick (Operand.tmp 100) (Operand.tmp 111) (Operand.const (Value.bool false)), type := 4, pos := "law.go:159", after := #[{ on := 38, ground := Ground.data }, { on := 49, ground := Ground.data }], guard := none }) (v := ?_) rfl (by kernel_rfl) (by kernel_rfl) (by kernel_rfl) (fun _ _ _ h => h) (Or.inl ⟨by rfl, ?_⟩) (by assumption) ?_
        rotate_left 1
        · intro w hSw
          (try dsimp only at hSw)
          go_simp
          all_goals try with_reducible rfl
        try simp only [Act.put, List.setIfInBounds_toArray, List.set_cons_zero, List.set_cons_succ]
        refine wpAnyH_take (i := 51) (oi := { dst := some 4, op := Op.assign (Operand.tmp 112), type := 4, pos := "law.go:159", after := #[{ on := 50, ground := Ground.data }, { on := 44, ground := Ground.chain }, { on := 0, ground := Ground.phase }, { on := 1, ground := Ground.phase }, { on := 2, ground := Ground.phase }, { on := 3, ground := Ground.phase }, { on := 4, ground := Ground.phase }, { on := 5, ground := Ground.phase }, { on := 6, ground := Ground.phase }, { on := 7, ground := Ground.phase }, { on := 8, ground := Ground.phase }, { on := 9, ground := Ground.phase }, { on := 10, ground := Ground.phase }, { on := 11, ground := Ground.phase }, { on := 12, ground := Ground.phase }, { on := 13, ground := Ground.phase }, { on := 14, ground := Ground.phase }, { on := 15, ground := Ground.phase }, { on := 16, ground := Ground.phase }, { on := 17, ground := Ground.phase }, { on := 18, ground := Ground.phase }, { on := 19, ground := Ground.phase }, { on := 20, ground := Ground.phase }, { on := 21, ground := Ground.phase }, { on := 22, ground := Ground.phase }, { on := 23, ground := Ground.phase }, { on := 24, ground := Ground.phase }, { on := 25, ground := Ground.phase }, { on := 26, ground := Ground.phase }, { on := 27, ground := Ground.phase }, { on := 28, ground := Ground.phase }, { on := 29, ground := Ground.phase }, { on := 30, ground := Ground.phase }, { on := 31, ground := Ground.phase }, { on := 32, ground := Ground.phase }, { on := 33, ground := Ground.phase }, { on := 34, ground := Ground.phase }, { on := 35, ground := Ground.phase }, { on := 36, ground := Ground.phase }, { on := 37, ground := Ground.phase }, { on := 38, ground := Ground.phase }, { on := 39, ground := Ground.phase }, { on := 40, ground := Ground.phase }, { on := 41, ground := Ground.phase }, { on := 42, ground := Ground.phase }, { on := 43, ground := Ground.phase }, { on := 44, ground := Ground.phase }, { on := 45, ground := Ground.phase }, { on := 46, ground := Ground.phase }, { on := 47, ground := Ground.phase }, { on := 48, ground := Ground.phase }, { on := 49, ground := Ground.phase }, { on := 50, ground := Ground.phase }], guard := none }) (v := ?_) rfl (by kernel_rfl) (by kernel_rfl) (by kernel_rfl) (fun _ _ _ h => h) (Or.inl ⟨by rfl, ?_⟩) (by assumption) ?_
        rotate_left 1
        · intro w hSw
          (try dsimp only at hSw)
          go_simp
          all_goals try with_reducible rfl
        try simp only [Act.put, List.setIfInBounds_toArray, List.set_cons_zero, List.set_cons_succ]
        refine wpAnyH_done (by kernel_rfl) ?_ _
        all_goals go_wp2
        all_goals go_ret
        all_goals exact ⟨by first | rfl | simp_all, below_step HBZ.out PB⟩
      · have r1 : ((LL.length : Int) == 0) = false := by simpa using (show ¬ (LL.length : Int) = 0 by omega)
        have hyr : yt.room = max LL.length 16 := HQ.out.2.2.2.2 hL0
        have hyx : yt.room ≤ max st2.room 16 := HQ.out.2.2.2.1
        have r2 : decide ((yt.room : Int) ≤ (if (st2.room : Int) < 16 then 16 else (st2.room : Int))) = true := decide_eq_true (by split <;> omega)
        have r3 : ((yt.room : Int) == (if (LL.length : Int) < 16 then 16 else (LL.length : Int))) = true := by
          rw [beq_iff_eq]; split <;> omega
        have HG1 := Aside0.mk g1
        clear hyr hyx hab
        go_wp2_with fail
        have PB : Below wz.heap.size wz wz.drew := (Below.refl wz.heap.size wz).drew
        have hcc := Kd.C_string (P := Try.prog) (A := A2) (c := c2) Try.underlying31 Try.underlying5 Try.underlying9 (Kd.C_below HCZ.out PB)
        refine wp_region_held_drew (S := fun w' => (convert 31 9 (.slice A2 LL.length c2)).run Try.prog w' = .ok (.string (strOfNums LL)) w') (by kernel_rfl) hcc (fun hHeld => ?_)
        refine wpAnyH_take (i := 0) (oi := { dst := some 62, op := Op.move (Operand.tmp 10), type := 3, pos := "law.go:159", after := #[], guard := none }) (v := ?_) rfl (by kernel_rfl) (by kernel_rfl) (by kernel_rfl) (fun _ _ _ h => h) (Or.inl ⟨by rfl, ?_⟩) (by assumption) ?_
        rotate_left 1
        · intro w hSw
          (try dsimp only at hSw)
          go_simp
          all_goals try with_reducible rfl
        try simp only [Act.put, List.setIfInBounds_toArray, List.set_cons_zero, List.set_cons_succ]
        refine wpAnyH_take (i := 1) (oi := { dst := some 63, op := Op.move (Operand.tmp 8), type := 3, pos := "law.go:159", after := #[], guard := none }) (v := ?_) rfl (by kernel_rfl) (by kernel_rfl) (by kernel_rfl) (fun _ _ _ h => h) (Or.inl ⟨by rfl, ?_⟩) (by assumption) ?_
        rotate_left 1
        · intro w hSw
          (try dsimp only at hSw)
          go_simp
          all_goals try with_reducible rfl
        try simp only [Act.put, List.setIfInBounds_toArray, List.set_cons_zero, List.set_cons_succ]
        refine wpAnyH_take (i := 2) (oi := { dst := some 64, op := Op.binOp BinOp.sub 3 (Operand.tmp 62) (Operand.tmp 63) 3, type := 3, pos := "law.go:159", after := #[{ on := 0, ground := Ground.data }, { on := 1, ground := Ground.data }], guard := none }) (v := ?_) rfl (by kernel_rfl) (by kernel_rfl) (by kernel_rfl) (fun _ _ _ h => h) (Or.inl ⟨by rfl, ?_⟩) (by assumption) ?_
        rotate_left 1
        · intro w hSw
          (try dsimp only at hSw)
          go_simp
          all_goals try with_reducible rfl
        try simp only [Act.put, List.setIfInBounds_toArray, List.set_cons_zero, List.set_cons_succ]
        refine wpAnyH_take (i := 3) (oi := { dst := some 65, op := Op.move (Operand.tmp 0), type := 31, pos := "law.go:159", after := #[], guard := none }) (v := ?_) rfl (by kernel_rfl) (by kernel_rfl) (by kernel_rfl) (fun _ _ _ h => h) (Or.inl ⟨by rfl, ?_⟩) (by assumption) ?_
        rotate_left 1
        · intro w hSw
          (try dsimp only at hSw)
          go_simp
          all_goals try with_reducible rfl
        try simp only [Act.put, List.setIfInBounds_toArray, List.set_cons_zero, List.set_cons_succ]
        refine wpAnyH_take (i := 4) (oi := { dst := some 66, op := Op.call { callee := Callee.builtin Builtin.len, args := #[Operand.tmp 65], argTypes := #[31] }, type := 3, pos := "law.go:159", after := #[{ on := 3, ground := Ground.data }], guard := none }) (v := ?_) rfl (by kernel_rfl) (by kernel_rfl) (by kernel_rfl) (fun _ _ _ h => h) (Or.inl ⟨by rfl, ?_⟩) (by assumption) ?_
        rotate_left 1
        · intro w hSw
          (try dsimp only at hSw)
          go_simp
          all_goals try with_reducible rfl
        try simp only [Act.put, List.setIfInBounds_toArray, List.set_cons_zero, List.set_cons_succ]
        refine wpAnyH_take (i := 5) (oi := { dst := some 67, op := Op.move (Operand.tmp 1), type := 31, pos := "law.go:159", after := #[], guard := none }) (v := ?_) rfl (by kernel_rfl) (by kernel_rfl) (by kernel_rfl) (fun _ _ _ h => h) (Or.inl ⟨by rfl, ?_⟩) (by assumption) ?_
        rotate_left 1
        · intro w hSw
          (try dsimp only at hSw)
          go_simp
          all_goals try with_reducible rfl
        try simp only [Act.put, List.setIfInBounds_toArray, List.set_cons_zero, List.set_cons_succ]
        refine wpAnyH_take (i := 6) (oi := { dst := some 68, op := Op.call { callee := Callee.builtin Builtin.len, args := #[Operand.tmp 67], argTypes := #[31] }, type := 3, pos := "law.go:159", after := #[{ on := 5, ground := Ground.data }], guard := none }) (v := ?_) rfl (by kernel_rfl) (by kernel_rfl) (by kernel_rfl) (fun _ _ _ h => h) (Or.inl ⟨by rfl, ?_⟩) (by assumption) ?_
        rotate_left 1
        · intro w hSw
          (try dsimp only at hSw)
          go_simp
          all_goals try with_reducible rfl
        try simp only [Act.put, List.setIfInBounds_toArray, List.set_cons_zero, List.set_cons_succ]
        refine wpAnyH_take (i := 7) (oi := { dst := some 69, op := Op.binOp BinOp.add 3 (Operand.tmp 66) (Operand.tmp 68) 3, type := 3, pos := "law.go:159", after := #[{ on := 4, ground := Ground.data }, { on := 6, ground := Ground.data }], guard := none }) (v := ?_) rfl (by kernel_rfl) (by kernel_rfl) (by kernel_rfl) (fun _ _ _ h => h) (Or.inl ⟨by rfl, ?_⟩) (by assumption) ?_
        rotate_left 1
        · intro w hSw
          (try dsimp only at hSw)
          go_simp
          all_goals try with_reducible rfl
        try simp only [Act.put, List.setIfInBounds_toArray, List.set_cons_zero, List.set_cons_succ]
        refine wpAnyH_take (i := 8) (oi := { dst := some 70, op := Op.binOp BinOp.eql 3 (Operand.tmp 64) (Operand.tmp 69) 3, type := 4, pos := "law.go:159", after := #[{ on := 2, ground := Ground.data }, { on := 7, ground := Ground.data }], guard := none }) (v := ?_) rfl (by kernel_rfl) (by kernel_rfl) (by kernel_rfl) (fun _ _ _ h => h) (Or.inl ⟨by rfl, ?_⟩) (by assumption) ?_
        rotate_left 1
        · intro w hSw
          (try dsimp only at hSw)
          go_simp
          all_goals try with_reducible rfl
        try simp only [Act.put, List.setIfInBounds_toArray, List.set_cons_zero, List.set_cons_succ]
        refine wpAnyH_take (i := 9) (oi := { dst := some 71, op := Op.move (Operand.tmp 70), type := 4, pos := "law.go:159", after := #[{ on := 8, ground := Ground.data }], guard := none }) (v := ?_) rfl (by kernel_rfl) (by kernel_rfl) (by kernel_rfl) (fun _ _ _ h => h) (Or.inl ⟨by rfl, ?_⟩) (by assumption) ?_
        rotate_left 1
        · intro w hSw
          (try dsimp only at hSw)
          go_simp
          all_goals try with_reducible rfl
        try simp only [Act.put, List.setIfInBounds_toArray, List.set_cons_zero, List.set_cons_succ]
        refine wpAnyH_take (i := 10) (oi := { dst := some 72, op := Op.move (Operand.tmp 7), type := 27, pos := "law.go:159", after := #[{ on := 9, ground := Ground.guard }], guard := some (9, true) }) (v := ?_) rfl (by kernel_rfl) (by kernel_rfl) (by kernel_rfl) (fun _ _ _ h => h) (Or.inl ⟨by go_simp, ?_⟩) (by assumption) ?_
        rotate_left 1
        · intro w hSw
          (try dsimp only at hSw)
          go_simp
          all_goals try with_reducible rfl
        try simp only [Act.put, List.setIfInBounds_toArray, List.set_cons_zero, List.set_cons_succ]
        refine wpAnyH_take (i := 12) (oi := { dst := some 74, op := Op.move (Operand.tmp 9), type := 3, pos := "law.go:159", after := #[{ on := 9, ground := Ground.guard }], guard := some (9, true) }) (v := ?_) rfl (by kernel_rfl) (by kernel_rfl) (by kernel_rfl) (fun _ _ _ h => h) (Or.inl ⟨by go_simp, ?_⟩) (by assumption) ?_
        rotate_left 1
        · intro w hSw
          (try dsimp only at hSw)
          go_simp
          all_goals try with_reducible rfl
        try simp only [Act.put, List.setIfInBounds_toArray, List.set_cons_zero, List.set_cons_succ]
        refine wpAnyH_ready (rs := [11]) (by kernel_rfl) (by simp) ?_
        refine AllReadyH.cons (o := { dst := some 73, op := Op.call { callee := Callee.value (Operand.func 17), args := #[Operand.tmp 72], argTypes := #[27] }, type := 3, pos := "law.go:159", after := #[{ on := 10, ground := Ground.data }, { on := 9, ground := Ground.chain }, { on := 9, ground := Ground.guard }], guard := some (9, true) }) rfl (fun K hK => ?_) AllReadyH.nil
        clear hHeld
        go_simp
        refine (win_room (HX.out.below PB)).mono ?_
        rintro e wj ⟨rfl, hb'⟩
        have PB' := below_step PB hb'
        clear PB
        have PB := PB'
        clear PB' hb' hcc
        have hcc := Kd.C_string (P := Try.prog) (A := A2) (c := c2) Try.underlying31 Try.underlying5 Try.underlying9 (Kd.C_below HCZ.out PB)
        refine hK.out _ _ hcc (fun hHeld => ?_)
        clear hK K
        try simp only [Act.put, List.setIfInBounds_toArray, List.set_cons_zero, List.set_cons_succ]
        refine wpAnyH_take (i := 13) (oi := { dst := some 75, op := Op.binOp BinOp.eql 3 (Operand.tmp 73) (Operand.tmp 74) 3, type := 4, pos := "law.go:159", after := #[{ on := 11, ground := Ground.data }, { on := 12, ground := Ground.data }, { on := 9, ground := Ground.guard }], guard := some (9, true) }) (v := ?_) rfl (by kernel_rfl) (by kernel_rfl) (by kernel_rfl) (fun _ _ _ h => h) (Or.inl ⟨by go_simp, ?_⟩) (by assumption) ?_
        rotate_left 1
        · intro w hSw
          (try dsimp only at hSw)
          go_simp
          all_goals try with_reducible rfl
        try simp only [Act.put, List.setIfInBounds_toArray, List.set_cons_zero, List.set_cons_succ]
        refine wpAnyH_take (i := 14) (oi := { dst := some 76, op := Op.pick (Operand.tmp 71) (Operand.tmp 75) (Operand.const (Value.bool false)), type := 4, pos := "law.go:159", after := #[{ on := 9, ground := Ground.data }, { on := 13, ground := Ground.data }], guard := none }) (v := ?_) rfl (by kernel_rfl) (by kernel_rfl) (by kernel_rfl) (fun _ _ _ h => h) (Or.inl ⟨by rfl, ?_⟩) (by assumption) ?_
        rotate_left 1
        · intro w hSw
          (try dsimp only at hSw)
          go_simp
          all_goals try with_reducible rfl
        try simp only [Act.put, List.setIfInBounds_toArray, List.set_cons_zero, List.set_cons_succ]
        refine wpAnyH_take (i := 15) (oi := { dst := some 77, op := Op.move (Operand.tmp 76), type := 4, pos := "law.go:159", after := #[{ on := 14, ground := Ground.data }, { on := 11, ground := Ground.chain }], guard := none }) (v := ?_) rfl (by kernel_rfl) (by kernel_rfl) (by kernel_rfl) (fun _ _ _ h => h) (Or.inl ⟨by rfl, ?_⟩) (by assumption) ?_
        rotate_left 1
        · intro w hSw
          (try dsimp only at hSw)
          go_simp
          all_goals try with_reducible rfl
        try simp only [Act.put, List.setIfInBounds_toArray, List.set_cons_zero, List.set_cons_succ]
        refine wpAnyH_take (i := 16) (oi := { dst := some 78, op := Op.move (Operand.tmp 11), type := 25, pos := "law.go:159", after := #[{ on := 15, ground := Ground.guard }], guard := some (15, true) }) (v := ?_) rfl (by kernel_rfl) (by kernel_rfl) (by kernel_rfl) (fun _ _ _ h => h) (Or.inl ⟨by go_simp, ?_⟩) (by assumption) ?_
        rotate_left 1
        · intro w hSw
          (try dsimp only at hSw)
          go_simp
          all_goals try with_reducible rfl
        try simp only [Act.put, List.setIfInBounds_toArray, List.set_cons_zero, List.set_cons_succ]
        refine wpAnyH_take (i := 19) (oi := { dst := some 81, op := Op.move (Operand.tmp 13), type := 31, pos := "law.go:159", after := #[{ on := 15, ground := Ground.guard }], guard := some (15, true) }) (v := ?_) rfl (by kernel_rfl) (by kernel_rfl) (by kernel_rfl) (fun _ _ _ h => h) (Or.inl ⟨by go_simp, ?_⟩) (by assumption) ?_
        rotate_left 1
        · intro w hSw
          (try dsimp only at hSw)
          go_simp
          all_goals try with_reducible rfl
        try simp only [Act.put, List.setIfInBounds_toArray, List.set_cons_zero, List.set_cons_succ]
        refine wpAnyH_take (i := 20) (oi := { dst := some 82, op := Op.call { callee := Callee.builtin Builtin.len, args := #[Operand.tmp 81], argTypes := #[31] }, type := 3, pos := "law.go:159", after := #[{ on := 19, ground := Ground.data }, { on := 15, ground := Ground.guard }], guard := some (15, true) }) (v := ?_) rfl (by kernel_rfl) (by kernel_rfl) (by kernel_rfl) (fun _ _ _ h => h) (Or.inl ⟨by go_simp, ?_⟩) (by assumption) ?_
        rotate_left 1
        · intro w hSw
          (try dsimp only at hSw)
          go_simp
          all_goals try with_reducible rfl
        try simp only [Act.put, List.setIfInBounds_toArray, List.set_cons_zero, List.set_cons_succ]
        refine wpAnyH_ready (rs := [17]) (by kernel_rfl) (by simp) ?_
        refine AllReadyH.cons (o := { dst := some 79, op := Op.call { callee := Callee.value (Operand.func 18), args := #[Operand.tmp 78], argTypes := #[25] }, type := 40, pos := "law.go:159", after := #[{ on := 16, ground := Ground.data }, { on := 15, ground := Ground.chain }, { on := 15, ground := Ground.guard }], guard := some (15, true) }) rfl (fun K hK => ?_) AllReadyH.nil
        clear hHeld
        go_simp
        refine (win_counts (HYZ.out.below PB)).mono ?_
        rintro e wj ⟨rfl, hb'⟩
        have PB' := below_step PB hb'
        clear PB
        have PB := PB'
        clear PB' hb' hcc
        have hcc := Kd.C_string (P := Try.prog) (A := A2) (c := c2) Try.underlying31 Try.underlying5 Try.underlying9 (Kd.C_below HCZ.out PB)
        refine hK.out _ _ hcc (fun hHeld => ?_)
        clear hK K
        try simp only [Act.put, List.setIfInBounds_toArray, List.set_cons_zero, List.set_cons_succ]
        refine wpAnyH_take (i := 18) (oi := { dst := some 80, op := Op.field 40 (Operand.tmp 79) 3, type := 3, pos := "law.go:159", after := #[{ on := 17, ground := Ground.data }, { on := 15, ground := Ground.guard }], guard := some (15, true) }) (v := ?_) rfl (by kernel_rfl) (by kernel_rfl) (by kernel_rfl) (fun _ _ _ h => h) (Or.inl ⟨by go_simp, ?_⟩) (by assumption) ?_
        rotate_left 1
        · intro w hSw
          (try dsimp only at hSw)
          go_simp
          all_goals try with_reducible rfl
        try simp only [Act.put, List.setIfInBounds_toArray, List.set_cons_zero, List.set_cons_succ]
        refine wpAnyH_take (i := 21) (oi := { dst := some 83, op := Op.binOp BinOp.eql 3 (Operand.tmp 80) (Operand.tmp 82) 3, type := 4, pos := "law.go:159", after := #[{ on := 18, ground := Ground.data }, { on := 20, ground := Ground.data }, { on := 15, ground := Ground.guard }], guard := some (15, true) }) (v := ?_) rfl (by kernel_rfl) (by kernel_rfl) (by kernel_rfl) (fun _ _ _ h => h) (Or.inl ⟨by go_simp, ?_⟩) (by assumption) ?_
        rotate_left 1
        · intro w hSw
          (try dsimp only at hSw)
          go_simp
          all_goals try with_reducible rfl
        try simp only [Act.put, List.setIfInBounds_toArray, List.set_cons_zero, List.set_cons_succ]
        refine wpAnyH_take (i := 22) (oi := { dst := some 84, op := Op.pick (Operand.tmp 77) (Operand.tmp 83) (Operand.const (Value.bool false)), type := 4, pos := "law.go:159", after := #[{ on := 15, ground := Ground.data }, { on := 21, ground := Ground.data }], guard := none }) (v := ?_) rfl (by kernel_rfl) (by kernel_rfl) (by kernel_rfl) (fun _ _ _ h => h) (Or.inl ⟨by rfl, ?_⟩) (by assumption) ?_
        rotate_left 1
        · intro w hSw
          (try dsimp only at hSw)
          go_simp
          all_goals try with_reducible rfl
        try simp only [Act.put, List.setIfInBounds_toArray, List.set_cons_zero, List.set_cons_succ]
        refine wpAnyH_take (i := 23) (oi := { dst := some 85, op := Op.move (Operand.tmp 84), type := 4, pos := "law.go:159", after := #[{ on := 22, ground := Ground.data }, { on := 17, ground := Ground.chain }], guard := none }) (v := ?_) rfl (by kernel_rfl) (by kernel_rfl) (by kernel_rfl) (fun _ _ _ h => h) (Or.inl ⟨by rfl, ?_⟩) (by assumption) ?_
        rotate_left 1
        · intro w hSw
          (try dsimp only at hSw)
          go_simp
          all_goals try with_reducible rfl
        try simp only [Act.put, List.setIfInBounds_toArray, List.set_cons_zero, List.set_cons_succ]
        refine wpAnyH_take (i := 24) (oi := { dst := some 86, op := Op.move (Operand.tmp 12), type := 27, pos := "law.go:159", after := #[{ on := 23, ground := Ground.guard }], guard := some (23, true) }) (v := ?_) rfl (by kernel_rfl) (by kernel_rfl) (by kernel_rfl) (fun _ _ _ h => h) (Or.inl ⟨by go_simp, ?_⟩) (by assumption) ?_
        rotate_left 1
        · intro w hSw
          (try dsimp only at hSw)
          go_simp
          all_goals try with_reducible rfl
        try simp only [Act.put, List.setIfInBounds_toArray, List.set_cons_zero, List.set_cons_succ]
        refine wpAnyH_take (i := 27) (oi := { dst := some 89, op := Op.move (Operand.tmp 13), type := 31, pos := "law.go:159", after := #[{ on := 23, ground := Ground.guard }], guard := some (23, true) }) (v := ?_) rfl (by kernel_rfl) (by kernel_rfl) (by kernel_rfl) (fun _ _ _ h => h) (Or.inl ⟨by go_simp, ?_⟩) (by assumption) ?_
        rotate_left 1
        · intro w hSw
          (try dsimp only at hSw)
          go_simp
          all_goals try with_reducible rfl
        try simp only [Act.put, List.setIfInBounds_toArray, List.set_cons_zero, List.set_cons_succ]
        refine wpAnyH_take (i := 28) (oi := { dst := some 90, op := Op.convert 31 9 (Operand.tmp 89), type := 9, pos := "law.go:159", after := #[{ on := 27, ground := Ground.data }, { on := 23, ground := Ground.guard }], guard := some (23, true) }) (v := ?_) rfl (by kernel_rfl) (by kernel_rfl) (by kernel_rfl) (fun _ _ _ h => h) (Or.inl ⟨by go_simp, ?_⟩) (by assumption) ?_
        rotate_left 1
        · intro w hSw
          (try dsimp only at hSw)
          go_simp
          all_goals try with_reducible rfl
        try simp only [Act.put, List.setIfInBounds_toArray, List.set_cons_zero, List.set_cons_succ]
        refine wpAnyH_ready (rs := [25]) (by kernel_rfl) (by simp) ?_
        refine AllReadyH.cons (o := { dst := some 87, op := Op.call { callee := Callee.value (Operand.func 15), args := #[Operand.tmp 86], argTypes := #[27] }, type := 31, pos := "law.go:159", after := #[{ on := 24, ground := Ground.data }, { on := 23, ground := Ground.chain }, { on := 23, ground := Ground.guard }], guard := some (23, true) }) rfl (fun K hK => ?_) AllReadyH.nil
        clear hHeld
        go_simp
        refine (win_bytes (HYZ.out.below PB) (by have := HYR.out; omega)).mono ?_
        rintro e wj ⟨vb, rfl, hrb, hb'⟩
        rw [HYH.out] at hrb
        obtain ⟨A4, c4, hv4, hd4, hC4⟩ := Kd.R_reads hrb
        subst hv4
        have hcv4 := Kd.C_string (P := Try.prog) (A := A4) (c := c4) Try.underlying31 Try.underlying5 Try.underlying9 hC4
        clear hrb hd4 hC4
        have PB' := below_step PB hb'
        clear PB
        have PB := PB'
        clear PB' hb' hcc
        have hcc := Kd.C_string (P := Try.prog) (A := A2) (c := c2) Try.underlying31 Try.underlying5 Try.underlying9 (Kd.C_below HCZ.out PB)
        refine hK.out _ _ hcc (fun hHeld => ?_)
        clear hK K
        try simp only [Act.put, List.setIfInBounds_toArray, List.set_cons_zero, List.set_cons_succ]
        refine wpAnyH_ready (rs := [26]) (by kernel_rfl) (by simp) ?_
        refine AllReadyH.cons (o := { dst := some 88, op := Op.convert 31 9 (Operand.tmp 87), type := 9, pos := "law.go:159", after := #[{ on := 25, ground := Ground.data }, { on := 23, ground := Ground.guard }], guard := some (23, true) }) rfl (fun K hK => ?_) AllReadyH.nil
        clear hHeld
        go_simp
        refine hK.out _ _ hcc (fun hHeld => ?_)
        clear hK K
        try simp only [Act.put, List.setIfInBounds_toArray, List.set_cons_zero, List.set_cons_succ]
        refine wpAnyH_take (i := 29) (oi := { dst := some 91, op := Op.binOp BinOp.eql 9 (Operand.tmp 88) (Operand.tmp 90) 9, type := 4, pos := "law.go:159", after := #[{ on := 26, ground := Ground.data }, { on := 28, ground := Ground.data }, { on := 23, ground := Ground.guard }], guard := some (23, true) }) (v := ?_) rfl (by kernel_rfl) (by kernel_rfl) (by kernel_rfl) (fun _ _ _ h => h) (Or.inl ⟨by go_simp, ?_⟩) (by assumption) ?_
        rotate_left 1
        · intro w hSw
          (try dsimp only at hSw)
          go_simp
          all_goals try with_reducible rfl
        try simp only [Act.put, List.setIfInBounds_toArray, List.set_cons_zero, List.set_cons_succ]
        refine wpAnyH_take (i := 30) (oi := { dst := some 92, op := Op.pick (Operand.tmp 85) (Operand.tmp 91) (Operand.const (Value.bool false)), type := 4, pos := "law.go:159", after := #[{ on := 23, ground := Ground.data }, { on := 29, ground := Ground.data }], guard := none }) (v := ?_) rfl (by kernel_rfl) (by kernel_rfl) (by kernel_rfl) (fun _ _ _ h => h) (Or.inl ⟨by rfl, ?_⟩) (by assumption) ?_
        rotate_left 1
        · intro w hSw
          (try dsimp only at hSw)
          go_simp
          all_goals try with_reducible rfl
        try simp only [Act.put, List.setIfInBounds_toArray, List.set_cons_zero, List.set_cons_succ]
        refine wpAnyH_take (i := 31) (oi := { dst := some 93, op := Op.move (Operand.tmp 92), type := 4, pos := "law.go:159", after := #[{ on := 30, ground := Ground.data }, { on := 25, ground := Ground.chain }], guard := none }) (v := ?_) rfl (by kernel_rfl) (by kernel_rfl) (by kernel_rfl) (fun _ _ _ h => h) (Or.inl ⟨by rfl, ?_⟩) (by assumption) ?_
        rotate_left 1
        · intro w hSw
          (try dsimp only at hSw)
          go_simp
          all_goals try with_reducible rfl
        try simp only [Act.put, List.setIfInBounds_toArray, List.set_cons_zero, List.set_cons_succ]
        refine wpAnyH_take (i := 32) (oi := { dst := some 94, op := Op.move (Operand.tmp 12), type := 27, pos := "law.go:159", after := #[{ on := 31, ground := Ground.guard }], guard := some (31, true) }) (v := ?_) rfl (by kernel_rfl) (by kernel_rfl) (by kernel_rfl) (fun _ _ _ h => h) (Or.inl ⟨by go_simp, ?_⟩) (by assumption) ?_
        rotate_left 1
        · intro w hSw
          (try dsimp only at hSw)
          go_simp
          all_goals try with_reducible rfl
        try simp only [Act.put, List.setIfInBounds_toArray, List.set_cons_zero, List.set_cons_succ]
        refine wpAnyH_take (i := 34) (oi := { dst := some 96, op := Op.move (Operand.tmp 9), type := 3, pos := "law.go:159", after := #[{ on := 31, ground := Ground.guard }], guard := some (31, true) }) (v := ?_) rfl (by kernel_rfl) (by kernel_rfl) (by kernel_rfl) (fun _ _ _ h => h) (Or.inl ⟨by go_simp, ?_⟩) (by assumption) ?_
        rotate_left 1
        · intro w hSw
          (try dsimp only at hSw)
          go_simp
          all_goals try with_reducible rfl
        try simp only [Act.put, List.setIfInBounds_toArray, List.set_cons_zero, List.set_cons_succ]
        refine wpAnyH_take (i := 35) (oi := { dst := some 97, op := Op.call { callee := Callee.builtin Builtin.max, args := #[Operand.tmp 96, Operand.const (Value.int IntKind.i64 16)], argTypes := #[3, 3] }, type := 3, pos := "law.go:159", after := #[{ on := 34, ground := Ground.data }, { on := 31, ground := Ground.guard }], guard := some (31, true) }) (v := ?_) rfl (by kernel_rfl) (by kernel_rfl) (by kernel_rfl) (fun _ _ _ h => h) (Or.inl ⟨by go_simp, ?_⟩) (by assumption) ?_
        rotate_left 1
        · intro w hSw
          (try dsimp only at hSw)
          go_simp
          all_goals try with_reducible rfl
        try simp only [Act.put, List.setIfInBounds_toArray, List.set_cons_zero, List.set_cons_succ]
        refine wpAnyH_ready (rs := [33]) (by kernel_rfl) (by simp) ?_
        refine AllReadyH.cons (o := { dst := some 95, op := Op.call { callee := Callee.value (Operand.func 17), args := #[Operand.tmp 94], argTypes := #[27] }, type := 3, pos := "law.go:159", after := #[{ on := 32, ground := Ground.data }, { on := 31, ground := Ground.chain }, { on := 31, ground := Ground.guard }], guard := some (31, true) }) rfl (fun K hK => ?_) AllReadyH.nil
        clear hHeld
        go_simp
        refine (win_room (HYZ.out.below PB)).mono ?_
        rintro e wj ⟨rfl, hb'⟩
        have PB' := below_step PB hb'
        clear PB
        have PB := PB'
        clear PB' hb' hcc
        have hcc := Kd.C_string (P := Try.prog) (A := A2) (c := c2) Try.underlying31 Try.underlying5 Try.underlying9 (Kd.C_below HCZ.out PB)
        refine hK.out _ _ hcc (fun hHeld => ?_)
        clear hK K
        try simp only [Act.put, List.setIfInBounds_toArray, List.set_cons_zero, List.set_cons_succ]
        refine wpAnyH_take (i := 36) (oi := { dst := some 98, op := Op.binOp BinOp.leq 3 (Operand.tmp 95) (Operand.tmp 97) 3, type := 4, pos := "law.go:159", after := #[{ on := 33, ground := Ground.data }, { on := 35, ground := Ground.data }, { on := 31, ground := Ground.guard }], guard := some (31, true) }) (v := ?_) rfl (by kernel_rfl) (by kernel_rfl) (by kernel_rfl) (fun _ _ _ h => h) (Or.inl ⟨by go_simp, ?_⟩) (by assumption) ?_
        rotate_left 1
        · intro w hSw
          (try dsimp only at hSw)
          go_simp
          all_goals try with_reducible rfl
        try simp only [Act.put, List.setIfInBounds_toArray, List.set_cons_zero, List.set_cons_succ]
        refine wpAnyH_take (i := 37) (oi := { dst := some 99, op := Op.pick (Operand.tmp 93) (Operand.tmp 98) (Operand.const (Value.bool false)), type := 4, pos := "law.go:159", after := #[{ on := 31, ground := Ground.data }, { on := 36, ground := Ground.data }], guard := none }) (v := ?_) rfl (by kernel_rfl) (by kernel_rfl) (by kernel_rfl) (fun _ _ _ h => h) (Or.inl ⟨by rfl, ?_⟩) (by assumption) ?_
        rotate_left 1
        · intro w hSw
          (try dsimp only at hSw)
          go_simp
          all_goals try with_reducible rfl
        try simp only [Act.put, List.setIfInBounds_toArray, List.set_cons_zero, List.set_cons_succ]
        refine wpAnyH_take (i := 38) (oi := { dst := some 100, op := Op.move (Operand.tmp 99), type := 4, pos := "law.go:159", after := #[{ on := 37, ground := Ground.data }, { on := 33, ground := Ground.chain }], guard := none }) (v := ?_) rfl (by kernel_rfl) (by kernel_rfl) (by kernel_rfl) (fun _ _ _ h => h) (Or.inl ⟨by rfl, ?_⟩) (by assumption) ?_
        rotate_left 1
        · intro w hSw
          (try dsimp only at hSw)
          go_simp
          all_goals try with_reducible rfl
        try simp only [Act.put, List.setIfInBounds_toArray, List.set_cons_zero, List.set_cons_succ]
        refine wpAnyH_take (i := 39) (oi := { dst := some 101, op := Op.move (Operand.tmp 13), type := 31, pos := "law.go:159", after := #[{ on := 38, ground := Ground.guard }], guard := some (38, true) }) (v := ?_) rfl (by kernel_rfl) (by kernel_rfl) (by kernel_rfl) (fun _ _ _ h => h) (Or.inl ⟨by go_simp, ?_⟩) (by assumption) ?_
        rotate_left 1
        · intro w hSw
          (try dsimp only at hSw)
          go_simp
          all_goals try with_reducible rfl
        try simp only [Act.put, List.setIfInBounds_toArray, List.set_cons_zero, List.set_cons_succ]
        refine wpAnyH_take (i := 40) (oi := { dst := some 102, op := Op.call { callee := Callee.builtin Builtin.len, args := #[Operand.tmp 101], argTypes := #[31] }, type := 3, pos := "law.go:159", after := #[{ on := 39, ground := Ground.data }, { on := 38, ground := Ground.guard }], guard := some (38, true) }) (v := ?_) rfl (by kernel_rfl) (by kernel_rfl) (by kernel_rfl) (fun _ _ _ h => h) (Or.inl ⟨by go_simp, ?_⟩) (by assumption) ?_
        rotate_left 1
        · intro w hSw
          (try dsimp only at hSw)
          go_simp
          all_goals try with_reducible rfl
        try simp only [Act.put, List.setIfInBounds_toArray, List.set_cons_zero, List.set_cons_succ]
        refine wpAnyH_take (i := 41) (oi := { dst := some 103, op := Op.binOp BinOp.eql 3 (Operand.tmp 102) (Operand.const (Value.int IntKind.i64 0)) 3, type := 4, pos := "law.go:159", after := #[{ on := 40, ground := Ground.data }, { on := 38, ground := Ground.guard }], guard := some (38, true) }) (v := ?_) rfl (by kernel_rfl) (by kernel_rfl) (by kernel_rfl) (fun _ _ _ h => h) (Or.inl ⟨by go_simp, ?_⟩) (by assumption) ?_
        rotate_left 1
        · intro w hSw
          (try dsimp only at hSw)
          go_simp
          all_goals try with_reducible rfl
        try simp only [Act.put, List.setIfInBounds_toArray, List.set_cons_zero, List.set_cons_succ]
        refine wpAnyH_take (i := 42) (oi := { dst := some 104, op := Op.move (Operand.tmp 103), type := 4, pos := "law.go:159", after := #[{ on := 41, ground := Ground.data }, { on := 38, ground := Ground.chain }, { on := 38, ground := Ground.guard }], guard := some (38, true) }) (v := ?_) rfl (by kernel_rfl) (by kernel_rfl) (by kernel_rfl) (fun _ _ _ h => h) (Or.inl ⟨by go_simp, ?_⟩) (by assumption) ?_
        rotate_left 1
        · intro w hSw
          (try dsimp only at hSw)
          go_simp
          all_goals try with_reducible rfl
        try simp only [Act.put, List.setIfInBounds_toArray, List.set_cons_zero, List.set_cons_succ]
        refine wpAnyH_take (i := 43) (oi := { dst := some 105, op := Op.move (Operand.tmp 12), type := 27, pos := "law.go:159", after := #[{ on := 42, ground := Ground.guard }], guard := some (42, false) }) (v := ?_) rfl (by kernel_rfl) (by kernel_rfl) (by kernel_rfl) (fun _ _ _ h => h) (Or.inl ⟨by go_simp, ?_⟩) (by assumption) ?_
        rotate_left 1
        · intro w hSw
          (try dsimp only at hSw)
          go_simp
          all_goals try with_reducible rfl
        try simp only [Act.put, List.setIfInBounds_toArray, List.set_cons_zero, List.set_cons_succ]
        refine wpAnyH_take (i := 45) (oi := { dst := some 107, op := Op.move (Operand.tmp 13), type := 31, pos := "law.go:159", after := #[{ on := 42, ground := Ground.guard }], guard := some (42, false) }) (v := ?_) rfl (by kernel_rfl) (by kernel_rfl) (by kernel_rfl) (fun _ _ _ h => h) (Or.inl ⟨by go_simp, ?_⟩) (by assumption) ?_
        rotate_left 1
        · intro w hSw
          (try dsimp only at hSw)
          go_simp
          all_goals try with_reducible rfl
        try simp only [Act.put, List.setIfInBounds_toArray, List.set_cons_zero, List.set_cons_succ]
        refine wpAnyH_take (i := 46) (oi := { dst := some 108, op := Op.call { callee := Callee.builtin Builtin.len, args := #[Operand.tmp 107], argTypes := #[31] }, type := 3, pos := "law.go:159", after := #[{ on := 45, ground := Ground.data }, { on := 42, ground := Ground.guard }], guard := some (42, false) }) (v := ?_) rfl (by kernel_rfl) (by kernel_rfl) (by kernel_rfl) (fun _ _ _ h => h) (Or.inl ⟨by go_simp, ?_⟩) (by assumption) ?_
        rotate_left 1
        · intro w hSw
          (try dsimp only at hSw)
          go_simp
          all_goals try with_reducible rfl
        try simp only [Act.put, List.setIfInBounds_toArray, List.set_cons_zero, List.set_cons_succ]
        refine wpAnyH_take (i := 47) (oi := { dst := some 109, op := Op.call { callee := Callee.builtin Builtin.max, args := #[Operand.tmp 108, Operand.const (Value.int IntKind.i64 16)], argTypes := #[3, 3] }, type := 3, pos := "law.go:159", after := #[{ on := 46, ground := Ground.data }, { on := 42, ground := Ground.guard }], guard := some (42, false) }) (v := ?_) rfl (by kernel_rfl) (by kernel_rfl) (by kernel_rfl) (fun _ _ _ h => h) (Or.inl ⟨by go_simp, ?_⟩) (by assumption) ?_
        rotate_left 1
        · intro w hSw
          (try dsimp only at hSw)
          go_simp
          all_goals try with_reducible rfl
        try simp only [Act.put, List.setIfInBounds_toArray, List.set_cons_zero, List.set_cons_succ]
        refine wpAnyH_ready (rs := [44]) (by kernel_rfl) (by simp) ?_
        refine AllReadyH.cons (o := { dst := some 106, op := Op.call { callee := Callee.value (Operand.func 17), args := #[Operand.tmp 105], argTypes := #[27] }, type := 3, pos := "law.go:159", after := #[{ on := 43, ground := Ground.data }, { on := 42, ground := Ground.chain }, { on := 42, ground := Ground.guard }], guard := some (42, false) }) rfl (fun K hK => ?_) AllReadyH.nil
        clear hHeld
        go_simp
        refine (win_room (HYZ.out.below PB)).mono ?_
        rintro e wj ⟨rfl, hb'⟩
        have PB' := below_step PB hb'
        clear PB
        have PB := PB'
        clear PB' hb' hcc
        have hcc := Kd.C_string (P := Try.prog) (A := A2) (c := c2) Try.underlying31 Try.underlying5 Try.underlying9 (Kd.C_below HCZ.out PB)
        refine hK.out _ _ hcc (fun hHeld => ?_)
        clear hK K
        try simp only [Act.put, List.setIfInBounds_toArray, List.set_cons_zero, List.set_cons_succ]
        refine wpAnyH_take (i := 48) (oi := { dst := some 110, op := Op.binOp BinOp.eql 3 (Operand.tmp 106) (Operand.tmp 109) 3, type := 4, pos := "law.go:159", after := #[{ on := 44, ground := Ground.data }, { on := 47, ground := Ground.data }, { on := 42, ground := Ground.guard }], guard := some (42, false) }) (v := ?_) rfl (by kernel_rfl) (by kernel_rfl) (by kernel_rfl) (fun _ _ _ h => h) (Or.inl ⟨by go_simp, ?_⟩) (by assumption) ?_
        rotate_left 1
        · intro w hSw
          (try dsimp only at hSw)
          go_simp
          all_goals try with_reducible rfl
        try simp only [Act.put, List.setIfInBounds_toArray, List.set_cons_zero, List.set_cons_succ]
        refine wpAnyH_take (i := 49) (oi := { dst := some 111, op := Op.pick (Operand.tmp 104) (Operand.const (Value.bool true)) (Operand.tmp 110), type := 4, pos := "law.go:159", after := #[{ on := 42, ground := Ground.data }, { on := 48, ground := Ground.data }, { on := 38, ground := Ground.guard }], guard := some (38, true) }) (v := ?_) rfl (by kernel_rfl) (by kernel_rfl) (by kernel_rfl) (fun _ _ _ h => h) (Or.inl ⟨by go_simp, ?_⟩) (by assumption) ?_
        rotate_left 1
        · intro w hSw
          (try dsimp only at hSw)
          go_simp
          all_goals try with_reducible rfl
        try simp only [Act.put, List.setIfInBounds_toArray, List.set_cons_zero, List.set_cons_succ]
        refine wpAnyH_take (i := 50) (oi := { dst := some 112, op := Op.pick (Operand.tmp 100) (Operand.tmp 111) (Operand.const (Value.bool false)), type := 4, pos := "law.go:159", after := #[{ on := 38, ground := Ground.data }, { on := 49, ground := Ground.data }], guard := none }) (v := ?_) rfl (by kernel_rfl) (by kernel_rfl) (by kernel_rfl) (fun _ _ _ h => h) (Or.inl ⟨by rfl, ?_⟩) (by assumption) ?_
        rotate_left 1
        · intro w hSw
          (try dsimp only at hSw)
          go_simp
          all_goals try with_reducible rfl
        try simp only [Act.put, List.setIfInBounds_toArray, List.set_cons_zero, List.set_cons_succ]
        refine wpAnyH_take (i := 51) (oi := { dst := some 4, op := Op.assign (Operand.tmp 112), type := 4, pos := "law.go:159", after := #[{ on := 50, ground := Ground.data }, { on := 44, ground := Ground.chain }, { on := 0, ground := Ground.phase }, { on := 1, ground := Ground.phase }, { on := 2, ground := Ground.phase }, { on := 3, ground := Ground.phase }, { on := 4, ground := Ground.phase }, { on := 5, ground := Ground.phase }, { on := 6, ground := Ground.phase }, { on := 7, ground := Ground.phase }, { on := 8, ground := Ground.phase }, { on := 9, ground := Ground.phase }, { on := 10, ground := Ground.phase }, { on := 11, ground := Ground.phase }, { on := 12, ground := Ground.phase }, { on := 13, ground := Ground.phase }, { on := 14, ground := Ground.phase }, { on := 15, ground := Ground.phase }, { on := 16, ground := Ground.phase }, { on := 17, ground := Ground.phase }, { on := 18, ground := Ground.phase }, { on := 19, ground := Ground.phase }, { on := 20, ground := Ground.phase }, { on := 21, ground := Ground.phase }, { on := 22, ground := Ground.phase }, { on := 23, ground := Ground.phase }, { on := 24, ground := Ground.phase }, { on := 25, ground := Ground.phase }, { on := 26, ground := Ground.phase }, { on := 27, ground := Ground.phase }, { on := 28, ground := Ground.phase }, { on := 29, ground := Ground.phase }, { on := 30, ground := Ground.phase }, { on := 31, ground := Ground.phase }, { on := 32, ground := Ground.phase }, { on := 33, ground := Ground.phase }, { on := 34, ground := Ground.phase }, { on := 35, ground := Ground.phase }, { on := 36, ground := Ground.phase }, { on := 37, ground := Ground.phase }, { on := 38, ground := Ground.phase }, { on := 39, ground := Ground.phase }, { on := 40, ground := Ground.phase }, { on := 41, ground := Ground.phase }, { on := 42, ground := Ground.phase }, { on := 43, ground := Ground.phase }, { on := 44, ground := Ground.phase }, { on := 45, ground := Ground.phase }, { on := 46, ground := Ground.phase }, { on := 47, ground := Ground.phase }, { on := 48, ground := Ground.phase }, { on := 49, ground := Ground.phase }, { on := 50, ground := Ground.phase }], guard := none }) (v := ?_) rfl (by kernel_rfl) (by kernel_rfl) (by kernel_rfl) (fun _ _ _ h => h) (Or.inl ⟨by rfl, ?_⟩) (by assumption) ?_
        rotate_left 1
        · intro w hSw
          (try dsimp only at hSw)
          go_simp
          all_goals try with_reducible rfl
        try simp only [Act.put, List.setIfInBounds_toArray, List.set_cons_zero, List.set_cons_succ]
        refine wpAnyH_done (by kernel_rfl) ?_ _
        all_goals go_wp2
        all_goals go_ret
        all_goals exact ⟨by first | rfl | simp_all, below_step HBZ.out PB⟩
    · have d1 : decide ((a.length : Int) > 500) = false := decide_eq_false (by omega)
      have d2 : decide ((b.length : Int) > 500) = true := decide_eq_true (by omega)
      go_enter Try.func6, Try.ntmps6
      go_wp2_with fail
      refine (awake_calls _).mono ?_
      rintro e w1 ⟨rfl, hb1⟩
      have HB1 := Aside0.mk hb1
      clear hb1
      go_wp2
      go_ret
      exact ⟨rfl, HB1.out⟩
  · have d1 : decide ((a.length : Int) > 500) = true := decide_eq_true (by omega)
    go_enter Try.func6, Try.ntmps6
    go_wp2_with fail
    refine (awake_calls _).mono ?_
    rintro e w1 ⟨rfl, hb1⟩
    have HB1 := Aside0.mk hb1
    clear hb1
    go_wp2
    go_ret
    exact ⟨rfl, HB1.out⟩
end Go.Proofs.Ytgaoopcfjbcahaa.Win
