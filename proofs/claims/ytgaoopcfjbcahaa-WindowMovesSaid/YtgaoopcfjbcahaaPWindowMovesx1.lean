/- Functions of the translation and what they come to: laid by a program of this session (xprint.py) beside contracts proved by hand. No condition. -/
import Derived.Test.YtgaoopcfjbcahaaPWindowMovesx0
namespace Go.Proofs.Ytgaoopcfjbcahaa.PWindowMoves
open Go.RowKit Go.Proofs.YtgaoopcfjbcahaaW.PrintWords Go.Proofs.YtgaoopcfjbcahaaW.PrintLast Go.Proofs.YtgaoopcfjbcahaaW.PrintMore
attribute [local go_sem] max2_int min2_int max_two min_two max_three min_three max_four min_four   -- for this text's walks alone
set_option linter.unusedVariables false
set_option linter.unusedSimpArgs false

/-! ### seinelaw18_few: function 8 -/
def seinelaw18_few.l0 : Nat → List (S33) → Int → Int → Option (Bool)
  | 0, _, _, _ => none
  | k + 1, x0, x3, x4 => if x4 < (x0.length : Int) then (if 0 ≤ x4 then (if (((rd_T33 x0 x4).f1).length : Int) > 2000 then (some false) else (if (wrap64 (x3 + (((rd_T33 x0 x4).f1).length : Int))) > 4000 then (some false) else (seinelaw18_few.l0 k x0 (wrap64 (x3 + (((rd_T33 x0 x4).f1).length : Int))) (wrap64 (x4 + 1))))) else (none)) else (some (decide ((x0.length : Int) ≤ 200)))
def seinelaw18_few.f (k : Nat) (l0 : List (S33)) : Option (Bool) := seinelaw18_few.l0 k l0 0 0
theorem seinelaw18_few.mono_l : ∀ k, (∀ y0 y1 y2, LeO (seinelaw18_few.l0 k y0 y1 y2) (seinelaw18_few.l0 (k + 1) y0 y1 y2))
  | 0 => fun _ _ _ r h => by simp [seinelaw18_few.l0] at h
  | k + 1 => by
    have ih0 := seinelaw18_few.mono_l k
    · intro y0 y1 y2
      unfold seinelaw18_few.l0
      repeat' first
      | (with_reducible exact ih0 _ _ _)
      | (with_reducible exact LeO.refl _)
      | (with_reducible exact LeO.none _)
      | (with_reducible refine LeO.ite ?_ ?_)
      | (with_reducible refine LeO.bind ?_ (fun _ => ?_))
      | exact ih0 _ _ _
      | exact LeO.none _
      | refine LeO.ite ?_ ?_
      | refine LeO.bind ?_ (fun _ => ?_)
theorem seinelaw18_few.mono : ∀ a0 k, LeO (seinelaw18_few.f k a0) (seinelaw18_few.f (k + 1) a0) := by
  intro a0 k
  have ih0 := seinelaw18_few.mono_l k
  unfold seinelaw18_few.f
  repeat' first
      | (with_reducible exact ih0 _ _ _)
      | (with_reducible exact LeO.refl _)
      | (with_reducible exact LeO.none _)
      | (with_reducible refine LeO.ite ?_ ?_)
      | (with_reducible refine LeO.bind ?_ (fun _ => ?_))
      | exact ih0 _ _ _
      | exact LeO.none _
      | refine LeO.ite ?_ ?_
      | refine LeO.bind ?_ (fun _ => ?_)
set_option maxHeartbeats 8000000 in
set_option maxRecDepth 100000 in
theorem seinelaw18_few.calls (k : Nat) (A0 : Option Addr) (c0 : Nat) (l0 : List (S33)) (r : Bool) (w : World) (hr0 : Kd.C k33 w A0 l0.length l0) (hc0 : l0.length ≤ c0) (h : seinelaw18_few.f k l0 = some r) :
    Calls Try.prog 8 #[.slice A0 l0.length c0] w fun e w' => e = .returned (.bool r) ∧ Drawn0 w w' := by
  have HR0 := Aside0.mk hr0
  have HC0 := Aside0.mk hc0
  clear hr0 hc0
  have H : (seinelaw18_few.l0 k l0 0 0) = some r := h
  clear h
  have H' := Aside0.mk H
  clear H
  go_enter Try.func8, Try.ntmps8
  go_wp2
  go_loopg [3, 4] k (fun kq v3 v4 w' => ∃ (x3_1 : Int) (x4_1 : Int), v3 = .int .i64 x3_1 ∧ v4 = .int .i64 x4_1 ∧ Aside0 (seinelaw18_few.l0 kq l0 x3_1 x4_1 = some r) ∧ Aside0 (kq ≤ k) ∧ Drawn0 w w')
  case atStart => exact ⟨(0), (0), (by first | rfl | (simp; done) | (simp [*]; done) | (simp; exact (by intro a b; cases a <;> cases b <;> rfl : ∀ a b : Bool, (a == b) = (!(a != b))) _ _)), (by first | rfl | (simp; done) | (simp [*]; done) | (simp; exact (by intro a b; cases a <;> cases b <;> rfl : ∀ a b : Bool, (a == b) = (!(a != b))) _ _)), H', ⟨Nat.le_refl _⟩, by repeat (first | exact Drawn0.refl _ | apply Drawn0.step)⟩
  case round =>
    clear H'
    obtain ⟨x3_1, x4_1, rfl, rfl, HA, HK1, ⟨m1, rfl⟩⟩ := hrel
    cases gk with
    | zero => exact absurd HA.out (by simp [seinelaw18_few.l0])
    | succ k1 =>
      have H := HA.out
      clear HA
      simp only [seinelaw18_few.l0] at H
      by_cases c2 : x4_1 < (l0.length : Int)
      · rw [if_pos c2] at H
        have c2b0 : decide (x4_1 < (l0.length : Int)) = true := decide_eq_true c2
        clear c2
        by_cases c3 : 0 ≤ x4_1
        · rw [if_pos c3] at H
          have c3b0 : decide (0 ≤ x4_1) = true := decide_eq_true c3
          clear c3
          by_cases c4 : (((rd_T33 l0 x4_1).f1).length : Int) > 2000
          · rw [if_pos c4] at H
            have c4b0 : decide (2000 < (((rd_T33 l0 x4_1).f1).length : Int)) = true := decide_eq_true c4
            have c4b1 : decide (2000 < ((rd_T33 l0 x4_1).f1).length) = true := decide_eq_true (by omega)
            clear c4
            obtain rfl := Option.some.inj H
            have p101 : 0 ≤ (x4_1 : Int) := of_decide_eq_true (by first | (with_reducible assumption) | assumption)
            have q101 : x4_1 < (l0.length : Int) := of_decide_eq_true (by first | (with_reducible assumption) | assumption)
            obtain ⟨ad101, A101_1, c101_1, e101, hx101_0, hx101_1, hl101_1, hi101_1⟩ := at_T33 HR0.out x4_1 p101 q101
            cases e101
            have HR101_1 := Aside0.mk hi101_1
            have HC101_1 := Aside0.mk hl101_1
            clear hi101_1 hl101_1
            replace p101 := eq_true p101
            replace q101 := eq_true q101
            go_wp2
            go_ret
            exact ⟨by first | rfl | (simp; done) | (simp [*]; done) | (simp; exact (by intro a b; cases a <;> cases b <;> rfl : ∀ a b : Bool, (a == b) = (!(a != b))) _ _), by repeat (first | exact Drawn0.refl _ | apply Drawn0.step)⟩
          · rw [if_neg c4] at H
            have c4b0 : decide (2000 < (((rd_T33 l0 x4_1).f1).length : Int)) = false := decide_eq_false c4
            have c4b1 : decide (2000 < ((rd_T33 l0 x4_1).f1).length) = false := decide_eq_false (by omega)
            clear c4
            by_cases c5 : (wrap64 (x3_1 + (((rd_T33 l0 x4_1).f1).length : Int))) > 4000
            · rw [if_pos c5] at H
              have c5b0 : decide (4000 < (wrap64 (x3_1 + (((rd_T33 l0 x4_1).f1).length : Int)))) = true := decide_eq_true c5
              clear c5
              obtain rfl := Option.some.inj H
              have p101 : 0 ≤ (x4_1 : Int) := of_decide_eq_true (by first | (with_reducible assumption) | assumption)
              have q101 : x4_1 < (l0.length : Int) := of_decide_eq_true (by first | (with_reducible assumption) | assumption)
              obtain ⟨ad101, A101_1, c101_1, e101, hx101_0, hx101_1, hl101_1, hi101_1⟩ := at_T33 HR0.out x4_1 p101 q101
              cases e101
              have HR101_1 := Aside0.mk hi101_1
              have HC101_1 := Aside0.mk hl101_1
              clear hi101_1 hl101_1
              replace p101 := eq_true p101
              replace q101 := eq_true q101
              have p102 : 0 ≤ (x4_1 : Int) := of_decide_eq_true (by first | (with_reducible assumption) | assumption)
              have q102 : x4_1 < (l0.length : Int) := of_decide_eq_true (by first | (with_reducible assumption) | assumption)
              obtain ⟨ad102, A102_1, c102_1, e102, hx102_0, hx102_1, hl102_1, hi102_1⟩ := at_T33 HR0.out x4_1 p102 q102
              obtain rfl : ad101 = ad102 := (by injection e102)
              have HR102_1 := Aside0.mk hi102_1
              have HC102_1 := Aside0.mk hl102_1
              clear hi102_1 hl102_1
              replace p102 := eq_true p102
              replace q102 := eq_true q102
              have ea_ := Option.some.inj (hx101_1.symm.trans hx102_1)
              injection ea_ with ea_ en_ ec_
              subst ea_
              subst ec_
              clear en_
              go_wp2
              go_ret
              exact ⟨by first | rfl | (simp; done) | (simp [*]; done) | (simp; exact (by intro a b; cases a <;> cases b <;> rfl : ∀ a b : Bool, (a == b) = (!(a != b))) _ _), by repeat (first | exact Drawn0.refl _ | apply Drawn0.step)⟩
            · rw [if_neg c5] at H
              have c5b0 : decide (4000 < (wrap64 (x3_1 + (((rd_T33 l0 x4_1).f1).length : Int)))) = false := decide_eq_false c5
              clear c5
              have H' := Aside0.mk H
              clear H
              have p101 : 0 ≤ (x4_1 : Int) := of_decide_eq_true (by first | (with_reducible assumption) | assumption)
              have q101 : x4_1 < (l0.length : Int) := of_decide_eq_true (by first | (with_reducible assumption) | assumption)
              obtain ⟨ad101, A101_1, c101_1, e101, hx101_0, hx101_1, hl101_1, hi101_1⟩ := at_T33 HR0.out x4_1 p101 q101
              cases e101
              have HR101_1 := Aside0.mk hi101_1
              have HC101_1 := Aside0.mk hl101_1
              clear hi101_1 hl101_1
              replace p101 := eq_true p101
              replace q101 := eq_true q101
              have p102 : 0 ≤ (x4_1 : Int) := of_decide_eq_true (by first | (with_reducible assumption) | assumption)
              have q102 : x4_1 < (l0.length : Int) := of_decide_eq_true (by first | (with_reducible assumption) | assumption)
              obtain ⟨ad102, A102_1, c102_1, e102, hx102_0, hx102_1, hl102_1, hi102_1⟩ := at_T33 HR0.out x4_1 p102 q102
              obtain rfl : ad101 = ad102 := (by injection e102)
              have HR102_1 := Aside0.mk hi102_1
              have HC102_1 := Aside0.mk hl102_1
              clear hi102_1 hl102_1
              replace p102 := eq_true p102
              replace q102 := eq_true q102
              have ea_ := Option.some.inj (hx101_1.symm.trans hx102_1)
              injection ea_ with ea_ en_ ec_
              subst ea_
              subst ec_
              clear en_
              go_wp2
              go_roundg k1
              case measure => have := HK1.out; omega
              case rel => exact ⟨(wrap64 (x3_1 + (((rd_T33 l0 x4_1).f1).length : Int))), (wrap64 (x4_1 + 1)), (by first | rfl | (simp; done) | (simp [*]; done) | (simp; exact (by intro a b; cases a <;> cases b <;> rfl : ∀ a b : Bool, (a == b) = (!(a != b))) _ _)), (by first | rfl | (simp; done) | (simp [*]; done) | (simp; exact (by intro a b; cases a <;> cases b <;> rfl : ∀ a b : Bool, (a == b) = (!(a != b))) _ _)), H', ⟨by have := HK1.out; omega⟩, by repeat (first | exact Drawn0.refl _ | apply Drawn0.step)⟩
        · rw [if_neg c3] at H
          exact absurd H (by simp)
      · rw [if_neg c2] at H
        have c2b0 : decide (x4_1 < (l0.length : Int)) = false := decide_eq_false c2
        clear c2
        obtain rfl := Option.some.inj H
        go_wp2
        go_ret
        exact ⟨by first | rfl | (simp; done) | (simp [*]; done) | (simp; exact (by intro a b; cases a <;> cases b <;> rfl : ∀ a b : Bool, (a == b) = (!(a != b))) _ _), by repeat (first | exact Drawn0.refl _ | apply Drawn0.step)⟩

open Go.Proofs.Ytgaoopcfjbcahaa.Aid (Ev.succ Ev.const w64)
open Go.Proofs.Ytgaoopcfjbcahaa.Win (Win St addS clearS newS add_held add_fit add_grow add_le field40 far_of win_new win_add win_clear win_len win_room win_counts meter_new window_new roomN MAt mp)
def sumL : List S33 → Nat
  | [] => 0
  | x :: L => x.f1.length + sumL L
theorem sumL_app : ∀ a b : List S33, sumL (a ++ b) = sumL a + sumL b
  | [], b => by simp [sumL]
  | x :: a, b => by simp only [List.cons_append, sumL, sumL_app a b]; omega
theorem rdT (L : List S33) (n : Nat) (h : n < L.length) : rd_T33 L (n : Int) = L[n] := by
  unfold rd_T33; rw [Int.toNat_natCast, List.getD_eq_getElem?_getD, List.getElem?_eq_getElem h]; rfl
theorem few_loop (L : List S33) (hl : L.length < 8796093022208) (d : Nat) : ∀ n : Nat, n + d = L.length → sumL (L.take n) ≤ 4000 →
    ∃ r, Ev (fun k => seinelaw18_few.l0 k L (sumL (L.take n) : Int) (n : Int)) r ∧ (r = true → sumL L ≤ 4000 ∧ L.length ≤ 200) := by
  induction d with
  | zero =>
    intro n hn hs
    refine ⟨decide ((L.length : Int) ≤ 200), ?_, fun h => ?_⟩
    · refine Ev.succ ?_
      simp only [seinelaw18_few.l0, if_neg (show ¬ (n : Int) < (L.length : Int) by omega)]
      exact Ev.const rfl
    · rw [List.take_of_length_le (by omega)] at hs
      have := of_decide_eq_true h
      omega
  | succ d ih =>
    intro n hn hs
    have hr := rdT L n (by omega)
    have ht := List.take_succ_eq_append_getElem (show n < L.length by omega)
    have hsum : sumL (L.take (n + 1)) = sumL (L.take n) + (L[n]).f1.length := by rw [ht, sumL_app]; simp [sumL]
    by_cases h1 : ((L[n]).f1.length : Int) > 2000
    · refine ⟨false, ?_, fun h => by cases h⟩
      refine Ev.succ ?_
      simp only [seinelaw18_few.l0, if_pos (show (n : Int) < (L.length : Int) by omega), if_pos (show (0 : Int) ≤ (n : Int) by omega), hr, if_pos h1]
      exact Ev.const rfl
    · by_cases h2 : (sumL (L.take n) : Int) + ((L[n]).f1.length : Int) > 4000
      · refine ⟨false, ?_, fun h => by cases h⟩
        refine Ev.succ ?_
        simp only [seinelaw18_few.l0, if_pos (show (n : Int) < (L.length : Int) by omega), if_pos (show (0 : Int) ≤ (n : Int) by omega), hr, if_neg h1, w64 (show -9223372036854775808 ≤ (sumL (L.take n) : Int) + ((L[n]).f1.length : Int) by omega) (show (sumL (L.take n) : Int) + ((L[n]).f1.length : Int) ≤ 9223372036854775807 by omega), if_pos h2]
        exact Ev.const rfl
      · obtain ⟨r, q1, q2⟩ := ih (n + 1) (by omega) (by omega)
        refine ⟨r, ?_, q2⟩
        refine Ev.succ ?_
        simp only [seinelaw18_few.l0, if_pos (show (n : Int) < (L.length : Int) by omega), if_pos (show (0 : Int) ≤ (n : Int) by omega), hr, if_neg h1, w64 (show -9223372036854775808 ≤ (sumL (L.take n) : Int) + ((L[n]).f1.length : Int) by omega) (show (sumL (L.take n) : Int) + ((L[n]).f1.length : Int) ≤ 9223372036854775807 by omega), if_neg h2, w64 (show -9223372036854775808 ≤ (n : Int) + 1 by omega) (show (n : Int) + 1 ≤ 9223372036854775807 by omega)]
        rw [hsum] at q1
        exact q1
theorem few_tot (L : List S33) (hl : L.length < 8796093022208) : ∃ k r, seinelaw18_few.f k L = some r ∧ (r = true → sumL L ≤ 4000 ∧ L.length ≤ 200) := by
  obtain ⟨r, h, h2⟩ := few_loop L hl L.length 0 (by omega) (by simp [sumL])
  obtain ⟨k, hk⟩ := Ev.rounds (g := fun k => seinelaw18_few.f k L) (r := r) h
  exact ⟨k, r, hk, h2⟩
theorem sum_take (L : List S33) (n : Nat) : sumL (L.take n) ≤ sumL L := by
  have h := sumL_app (L.take n) (L.drop n)
  rw [List.take_append_drop] at h
  omega
/-- bytes that were moved, against those that were added -/
structure Good (st : St) (N : Nat) : Prop where
  lo : N ≤ st.mv
  hi : st.mv ≤ 3 * N
  pot : st.mv ≤ N + st.room
  held : st.held.length ≤ N
  room : st.room ≤ 10000
  fit : st.held.length ≤ st.room
theorem good_add {st : St} {N : Nat} (h : Good st N) (l : List Int) (hN : N + l.length ≤ 4000) : Good (addS st l) (N + l.length) ∧ st.room ≤ (addS st l).room := by
  have h1 := h.lo; have h2 := h.hi; have h3 := h.pot; have h4 := h.held; have h5 := h.room; have h6 := h.fit
  have e : (addS st l).held.length = st.held.length + l.length := by rw [add_held, List.length_append]
  by_cases hf : st.held.length + l.length ≤ st.room
  · obtain ⟨q1, q2⟩ := add_fit st l hf
    exact ⟨⟨by omega, by omega, by omega, by omega, by omega, by omega⟩, by omega⟩
  · obtain ⟨q1, q2⟩ := add_grow st l hf h6
    unfold roomN at q1
    exact ⟨⟨by omega, by omega, by omega, by omega, by omega, by omega⟩, by omega⟩
theorem good_clear {st : St} {N : Nat} (h : Good st N) : Good (clearS st) N := ⟨h.lo, h.hi, h.pot, Nat.zero_le _, h.room, Nat.zero_le _⟩
theorem good_new : Good newS 0 := ⟨Nat.le_refl _, Nat.le_refl _, Nat.zero_le _, Nat.le_refl _, by decide, Nat.le_refl _⟩
/-- what was added before some act -/
def addedL (L : List S33) (n : Nat) : Nat := sumL ((L.take n).filter (fun x => !x.f0))
theorem added_le (L : List S33) (n : Nat) : addedL L n ≤ sumL (L.take n) := by
  unfold addedL
  induction L.take n with
  | nil => exact Nat.le_refl _
  | cons x l ih =>
    rw [List.filter_cons]
    split
    · simp only [sumL]; omega
    · simp only [sumL]; omega
theorem added_succ (L : List S33) (n : Nat) (h : n < L.length) : addedL L (n + 1) = addedL L n + (if L[n].f0 = true then 0 else L[n].f1.length) := by
  unfold addedL
  rw [List.take_succ_eq_append_getElem h, List.filter_append, sumL_app]
  cases hq : L[n].f0 <;> simp [hq, sumL]
set_option maxHeartbeats 16000000 in
set_option maxRecDepth 100000 in
theorem moves_calls (A0 : Option Addr) (c0 : Nat) (l0 : List S33) (w : World) (hr0 : Kd.C k33 w A0 l0.length l0) (hc0 : l0.length ≤ c0) (hlen : l0.length < 8796093022208) :
    Calls Try.prog 4 #[.slice A0 l0.length c0] w fun e w' => e = .returned (.bool true) ∧ Below w.heap.size w w' := by
  obtain ⟨kf, r, hf, hfr⟩ := few_tot l0 hlen
  have HF := Aside0.mk (fun (W : World) (h : Kd.C k33 W A0 l0.length l0) => seinelaw18_few.calls kf A0 c0 l0 r W h hc0 hf)
  have HR := Aside0.mk hr0
  have HFR := Aside0.mk hfr
  have hfd := field40
  have hu40 := Try.underlying40
  clear hr0 hc0 hlen hf hfr
  go_enter Try.func4, Try.ntmps4
  go_wp2_with fail
  refine (Go.Proofs.Ytgaoopcfjbcahaa.Win.awake_calls _).mono ?_
  rintro e w1 ⟨rfl, hb1⟩
  have HB1 := Aside0.mk hb1
  clear hb1
  go_wp2_with fail
  refine (HF.out _ (Kd.C_below HR.out HB1.out)).mono ?_
  rintro e w2 ⟨rfl, hd⟩
  have HB2 := Aside0.mk (below_step HB1.out hd.below)
  clear hd HB1 HF
  cases r
  · go_wp2
    go_ret
    exact ⟨rfl, HB2.out⟩
  · have HS := Aside0.mk (HFR.out rfl)
    clear HFR
    go_wp2_with fail
    refine (meter_new _).mono ?_
    rintro e w3 ⟨rfl, rfl⟩
    go_wp2_with fail
    refine (window_new (some w2.heap.size) _).mono ?_
    rintro e w3 ⟨rfl, rfl⟩
    have HM := Aside0.mk (show MAt (w2.alloc (.cells #[.int .i64 0, .int .i64 0, .int .i64 0, .int .i64 0] 46)) (some w2.heap.size) 0 0 0 0 from fun g hg => by cases hg; exact blk_new w2 _)
    have HX := Aside0.mk (win_new HM.out)
    have HB3 := Aside0.mk (below_alloc (below_alloc HB2.out (.cells #[.int .i64 0, .int .i64 0, .int .i64 0, .int .i64 0] 46)) (.cells #[.pointer (mp (some w2.heap.size)), .slice none 0 0, .int .i64 0] 48))
    rw [World.size_alloc] at HX ⊢
    have HGE := Aside0.mk HB2.out.size
    generalize hw3 : (w2.alloc (.cells #[.int .i64 0, .int .i64 0, .int .i64 0, .int .i64 0] 46)).alloc (.cells #[.pointer (mp (some w2.heap.size)), .slice none 0 0, .int .i64 0] 48) = w3 at HX HB3 ⊢
    generalize w2.heap.size = gm at HX HGE ⊢
    clear hw3 HM HB2
    have HXA : Aside0 (∀ k : Addr, (none : Option Addr) = some k → w.heap.size ≤ k.block) := ⟨fun k hk => by cases hk⟩
    go_wp2
    go_loopw [7, 8, 9] (fun v7 v8 v9 wr => ∃ (n : Nat) (Ax : Option Addr) (st : St) (rm : Nat), v9 = .int .i64 (n : Int) ∧ v7 = .int .i64 ((addedL l0 n : Nat) : Int) ∧ v8 = .int .i64 (rm : Int) ∧ Aside0 (n ≤ l0.length) ∧ Aside0 (Win wr (gm + 1) (some gm) Ax st) ∧ Aside0 (Good st (addedL l0 n)) ∧ Aside0 (rm ≤ st.room) ∧ Aside0 (∀ k, Ax = some k → w.heap.size ≤ k.block) ∧ Aside0 (Below w.heap.size w wr)) (fun _ _ v _ => l0.length - (intOf v).toNat)
    case atStart => exact ⟨0, none, newS, 0, rfl, rfl, rfl, ⟨Nat.zero_le _⟩, HX, ⟨good_new⟩, ⟨Nat.le_refl _⟩, HXA, HB3⟩
    case round =>
      clear HX HXA HB3
      obtain ⟨n, Ax, st, rm, rfl, rfl, rfl, HN, HX, HG, HRM, HXA, HB⟩ := hrel
      by_cases hlt : n < l0.length
      · have c0b0 : decide ((n : Int) < (l0.length : Int)) = true := decide_eq_true (by omega)
        have c0b1 : decide (n < l0.length) = true := decide_eq_true hlt
        have p1 : 0 ≤ (n : Int) := by omega
        have q1 : (n : Int) < (l0.length : Int) := by omega
        obtain ⟨ad, A1, c1, e1, hxa, hxb, hl1, hi1⟩ := at_T33 HR.out (n : Int) p1 q1
        cases e1
        have hx0 := (HB.out.cell (World.block_lt_of_cell? w _ hxa)).trans hxa
        have hx1 := (HB.out.cell (World.block_lt_of_cell? w _ hxb)).trans hxb
        rw [rdT l0 n hlt] at hx0 hx1 hl1 hi1
        have hsu := added_succ l0 n hlt
        have hsm := added_le l0 (n + 1)
        have hst := sum_take l0 (n + 1)
        have HAD := Aside0.mk (show addedL l0 (n + 1) ≤ 4000 by have := HS.out; omega)
        have HI := Aside0.mk hi1
        have hW := Aside0.mk (show wrap64 ((n : Int) + 1) = ((n + 1 : Nat) : Int) by have := HS.out; unfold wrap64; omega)
        have HLT := Aside0.mk hlt
        have HX1W := Aside0.mk hxb
        rw [rdT l0 n hlt, Int.toNat_natCast] at HX1W
        generalize l0[n] = x at hx0 hx1 hl1 hsu HI HX1W
        obtain ⟨x0, x1⟩ := x
        dsimp only at hx0 hx1 hl1 hsu HI HX1W
        rw [Int.toNat_natCast] at hx0 hx1
        clear hxa hxb hl1 hi1 hsm hst
        clear hlt
        cases x0
        · rw [if_neg Bool.false_ne_true] at hsu
          have HSU := Aside0.mk hsu
          have HIC := Aside0.mk (Kd.C_below HI.out HB.out)
          have hwa : wrap64 (((addedL l0 n : Nat) : Int) + (x1.length : Int)) = ((addedL l0 (n + 1) : Nat) : Int) := by have := HAD.out; unfold wrap64; omega
          have HGA := Aside0.mk (good_add HG.out x1 (by have := HAD.out; omega))
          have hfr : 0 < x1.length → ∀ ad, A1 = some ad → ad.block < w.heap.size := fun hp => far_of HI.out hp
          have HFR := Aside0.mk hfr
          clear hsu hfr
          go_wp2_with fail
          refine (win_add HX.out A1 c1 w.heap.size x1 (by have := HGE.out; omega) (fun k hk => by cases hk; exact HGE.out) HXA.out HIC.out (fun hp ad e => by have hq := HFR.out hp ad e; have := HGE.out; exact ⟨by omega, fun hm => by injection hm with hm; omega⟩) (by have := HG.out.room; omega) (by have := HAD.out; have := HSU.out; omega) (by have := HG.out.hi; have := HAD.out; have := HSU.out; omega)).mono ?_
          rintro e w5 ⟨rfl, Ax5, hw, hao, hba, hkp, hbb⟩
          have HB5 := Aside0.mk (Below.trans HB.out hbb)
          have HX5 := Aside0.mk hw
          have HXA5 := Aside0.mk hba
          have HRR := Aside0.mk HGA.out.2
          have HG5 := Aside0.mk (show Good (addS st x1) (addedL l0 (n + 1)) by rw [HSU.out]; exact HGA.out.1)
          have hy1 := (HB5.out.cell (World.block_lt_of_cell? w _ HX1W.out)).trans HX1W.out
          generalize addS st x1 = st5 at HX5 HRR HG5
          clear hw hao hba hkp hbb HX HXA HG HB HGA hx0 hx1
          have HRN := Aside0.mk (show rm ≤ st5.room by have := HRM.out; have := HRR.out; omega)
          have f1 : decide ((st5.mv : Int) < ((addedL l0 (n + 1) : Nat) : Int)) = false := decide_eq_false (by have := HG5.out.lo; omega)
          have f2 : wrap64 (3 * ((addedL l0 (n + 1) : Nat) : Int)) = 3 * ((addedL l0 (n + 1) : Nat) : Int) := by have := HAD.out; unfold wrap64; omega
          have f3 : decide ((st5.mv : Int) > 3 * ((addedL l0 (n + 1) : Nat) : Int)) = false := decide_eq_false (by have := HG5.out.hi; omega)
          have f3b : decide (3 * ((addedL l0 (n + 1) : Nat) : Int) < (st5.mv : Int)) = false := decide_eq_false (by have := HG5.out.hi; omega)
          have f4 : decide ((st5.room : Int) < (st5.held.length : Int)) = false := decide_eq_false (by have := HG5.out.fit; omega)
          have f5 : decide ((st5.room : Int) < (rm : Int)) = false := decide_eq_false (by have := HRN.out; omega)
          have n1 : ¬ st5.mv < addedL l0 (n + 1) := by have := HG5.out.lo; omega
          have n1b := decide_eq_false n1
          have n4 : ¬ st5.room < st5.held.length := by have := HG5.out.fit; omega
          have n4b := decide_eq_false n4
          have n5 : ¬ st5.room < rm := by have := HRN.out; omega
          have n5b := decide_eq_false n5
          generalize hAN : addedL l0 (n + 1) = AN at HG5 n1 n1b f1 f2 f3 f3b hwa ⊢
          have HAN := Aside0.mk hAN
          clear hAN
          go_wp2_with fail
          refine (win_counts HX5.out).mono ?_
          rintro e w6 ⟨rfl, hb⟩
          have HB6 := Aside0.mk (below_step HB5.out hb)
          have HX6 := Aside0.mk (HX5.out.below hb)
          clear hb HB5 HX5
          go_wp2_with fail
          refine (win_room HX6.out).mono ?_
          rintro e w7 ⟨rfl, hb⟩
          have HB7 := Aside0.mk (below_step HB6.out hb)
          have HX7 := Aside0.mk (HX6.out.below hb)
          clear hb HB6 HX6
          go_wp2_with fail
          refine (win_len HX7.out).mono ?_
          rintro e w8 ⟨rfl, hb⟩
          have HB8 := Aside0.mk (below_step HB7.out hb)
          have HX8 := Aside0.mk (HX7.out.below hb)
          clear hb HB7 HX7
          go_wp2_with fail
          refine (win_room HX8.out).mono ?_
          rintro e w9 ⟨rfl, hb⟩
          have HB9 := Aside0.mk (below_step HB8.out hb)
          have HX9 := Aside0.mk (HX8.out.below hb)
          clear hb HB8 HX8
          go_wp2_with fail
          refine (win_room HX9.out).mono ?_
          rintro e w10 ⟨rfl, hb⟩
          have HB10 := Aside0.mk (below_step HB9.out hb)
          have HX10 := Aside0.mk (HX9.out.below hb)
          clear hb HB9 HX9
          go_wp2
          go_roundw
          case rel => exact ⟨n + 1, Ax5, st5, st5.room, by first | exact congrArg (Value.int .i64) hW.out | rfl, by rw [HAN.out], rfl, ⟨HLT.out⟩, HX10, ⟨by rw [HAN.out]; exact HG5.out⟩, ⟨Nat.le_refl _⟩, HXA5, HB10⟩
          case measure => have := HLT.out; (try rw [hW.out]); simp [intOf]; omega
        · have HSU := Aside0.mk (show addedL l0 (n + 1) = addedL l0 n by simpa using hsu)
          have HGA := Aside0.mk (good_clear HG.out)
          rw [← HSU.out]
          clear hsu
          go_wp2_with fail
          refine (win_clear HX.out w.heap.size (by have := HGE.out; omega)).mono ?_
          rintro e w5 ⟨rfl, hw, hkp, hbb⟩
          have HB5 := Aside0.mk (Below.trans HB.out hbb)
          have HX5 := Aside0.mk hw
          have HXA5 := Aside0.mk HXA.out
          have HRR := Aside0.mk (show st.room ≤ (clearS st).room from Nat.le_refl _)
          have HG5 := Aside0.mk (show Good (clearS st) (addedL l0 (n + 1)) by rw [HSU.out]; exact HGA.out)
          generalize clearS st = st5 at HX5 HRR HG5
          clear hw hkp hbb HX HXA HG HB HGA hx0 hx1
          have HRN := Aside0.mk (show rm ≤ st5.room by have := HRM.out; have := HRR.out; omega)
          have f1 : decide ((st5.mv : Int) < ((addedL l0 (n + 1) : Nat) : Int)) = false := decide_eq_false (by have := HG5.out.lo; omega)
          have f2 : wrap64 (3 * ((addedL l0 (n + 1) : Nat) : Int)) = 3 * ((addedL l0 (n + 1) : Nat) : Int) := by have := HAD.out; unfold wrap64; omega
          have f3 : decide ((st5.mv : Int) > 3 * ((addedL l0 (n + 1) : Nat) : Int)) = false := decide_eq_false (by have := HG5.out.hi; omega)
          have f3b : decide (3 * ((addedL l0 (n + 1) : Nat) : Int) < (st5.mv : Int)) = false := decide_eq_false (by have := HG5.out.hi; omega)
          have f4 : decide ((st5.room : Int) < (st5.held.length : Int)) = false := decide_eq_false (by have := HG5.out.fit; omega)
          have f5 : decide ((st5.room : Int) < (rm : Int)) = false := decide_eq_false (by have := HRN.out; omega)
          have n1 : ¬ st5.mv < addedL l0 (n + 1) := by have := HG5.out.lo; omega
          have n1b := decide_eq_false n1
          have n4 : ¬ st5.room < st5.held.length := by have := HG5.out.fit; omega
          have n4b := decide_eq_false n4
          have n5 : ¬ st5.room < rm := by have := HRN.out; omega
          have n5b := decide_eq_false n5
          generalize hAN : addedL l0 (n + 1) = AN at HG5 n1 n1b f1 f2 f3 f3b ⊢
          have HAN := Aside0.mk hAN
          clear hAN
          go_wp2_with fail
          refine (win_counts HX5.out).mono ?_
          rintro e w6 ⟨rfl, hb⟩
          have HB6 := Aside0.mk (below_step HB5.out hb)
          have HX6 := Aside0.mk (HX5.out.below hb)
          clear hb HB5 HX5
          go_wp2_with fail
          refine (win_room HX6.out).mono ?_
          rintro e w7 ⟨rfl, hb⟩
          have HB7 := Aside0.mk (below_step HB6.out hb)
          have HX7 := Aside0.mk (HX6.out.below hb)
          clear hb HB6 HX6
          go_wp2_with fail
          refine (win_len HX7.out).mono ?_
          rintro e w8 ⟨rfl, hb⟩
          have HB8 := Aside0.mk (below_step HB7.out hb)
          have HX8 := Aside0.mk (HX7.out.below hb)
          clear hb HB7 HX7
          go_wp2_with fail
          refine (win_room HX8.out).mono ?_
          rintro e w9 ⟨rfl, hb⟩
          have HB9 := Aside0.mk (below_step HB8.out hb)
          have HX9 := Aside0.mk (HX8.out.below hb)
          clear hb HB8 HX8
          go_wp2_with fail
          refine (win_room HX9.out).mono ?_
          rintro e w10 ⟨rfl, hb⟩
          have HB10 := Aside0.mk (below_step HB9.out hb)
          have HX10 := Aside0.mk (HX9.out.below hb)
          clear hb HB9 HX9
          go_wp2
          go_roundw
          case rel => exact ⟨n + 1, Ax, st5, st5.room, by first | exact congrArg (Value.int .i64) hW.out | rfl, by rw [HAN.out], rfl, ⟨HLT.out⟩, HX10, ⟨by rw [HAN.out]; exact HG5.out⟩, ⟨Nat.le_refl _⟩, HXA5, HB10⟩
          case measure => have := HLT.out; (try rw [hW.out]); simp [intOf]; omega
      · have c0b0 : decide ((n : Int) < (l0.length : Int)) = false := decide_eq_false (by omega)
        have c0b1 : decide (n < l0.length) = false := decide_eq_false hlt
        go_wp2
        go_ret
        exact ⟨rfl, HB.out⟩
def seinelaw18_WindowMoves.f (l0 : List S33) : Option Bool := if l0.length < 8796093022208 then some true else none
theorem seinelaw18_WindowMoves.calls (A0 : Option Addr) (c0 : Nat) (l0 : List S33) (r : Bool) (w : World) (hr0 : Kd.C k33 w A0 l0.length l0) (hc0 : l0.length ≤ c0) (h : seinelaw18_WindowMoves.f l0 = some r) :
    Calls Try.prog 4 #[.slice A0 l0.length c0] w fun e w' => e = .returned (.bool r) ∧ Below w.heap.size w w' := by
  unfold seinelaw18_WindowMoves.f at h
  by_cases hq : l0.length < 8796093022208
  · rw [if_pos hq] at h
    obtain rfl := Option.some.inj h
    exact moves_calls A0 c0 l0 w hr0 hc0 hq
  · rw [if_neg hq] at h
    cases h

end Go.Proofs.Ytgaoopcfjbcahaa.PWindowMoves
