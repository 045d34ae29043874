/- Functions of the translation and what they come to: laid by a program of this session (xprint.py) beside contracts proved by hand. No condition. -/
import Derived.Test.YtfcolpemkbpgnaaPAdmitFoldx0
import Derived.Test.YtfcolpemkbpgnaaPAdmitFoldx2
namespace Go.Proofs.Ytfcolpemkbpgnaa.PAdmitFold
open Go.RowKit Go.Proofs.YtfcolpemkbpgnaaW.PrintWords Go.Proofs.YtfcolpemkbpgnaaW.PrintLast Go.Proofs.YtfcolpemkbpgnaaW.PrintMore
attribute [local go_sem] max2_int min2_int max_two min_two max_three min_three max_four min_four   -- for this text's walks alone
set_option linter.unusedVariables false
set_option linter.unusedSimpArgs false

/-! ### seineref01_Bytes: function 14 -/
def seineref01_Bytes.l0 : Nat → ByteArray → ByteArray → Int → Option (ByteArray)
  | 0, _, _, _ => none
  | k + 1, x0, x3, x4 => if x4 < (x0.size : Int) then (if 0 ≤ x4 then ((seineref01_Byte.f (bt x0 x4)).bind fun t111 => ((some (([t111] : List Int) : List Int)).bind fun y112 => (if x3.size + (strOfNums y112).size ≤ 9223372036854775807 then (seineref01_Bytes.l0 k x0 (x3 ++ (strOfNums y112)) (wrap64 (x4 + 1))) else (none)))) else (none)) else (some x3)
def seineref01_Bytes.f (k : Nat) (a0 : ByteArray) : Option (ByteArray) := seineref01_Bytes.l0 k a0 (⟨#[]⟩ : ByteArray) 0
theorem seineref01_Bytes.mono_l : ∀ k, (∀ y0 y1 y2, LeO (seineref01_Bytes.l0 k y0 y1 y2) (seineref01_Bytes.l0 (k + 1) y0 y1 y2))
  | 0 => fun _ _ _ r h => by simp [seineref01_Bytes.l0] at h
  | k + 1 => by
    have ih0 := seineref01_Bytes.mono_l k
    · intro y0 y1 y2
      unfold seineref01_Bytes.l0
      repeat' first
      | (with_reducible exact ih0 _ _ _)
      | (with_reducible exact LeO.refl _)
      | (with_reducible exact LeO.none _)
      | (with_reducible refine LeO.ite ?_ ?_)
      | (with_reducible refine LeO.bind ?_ (fun _ => ?_))
      | exact ih0 _ _ _
      | exact LeO.none _
      | refine LeO.ite ?_ ?_
      | refine LeO.bind ?_ (fun _ => ?_)
theorem seineref01_Bytes.mono : ∀ a0 k, LeO (seineref01_Bytes.f k a0) (seineref01_Bytes.f (k + 1) a0) := by
  intro a0 k
  have ih0 := seineref01_Bytes.mono_l k
  unfold seineref01_Bytes.f
  repeat' first
      | (with_reducible exact ih0 _ _ _)
      | (with_reducible exact LeO.refl _)
      | (with_reducible exact LeO.none _)
      | (with_reducible refine LeO.ite ?_ ?_)
      | (with_reducible refine LeO.bind ?_ (fun _ => ?_))
      | exact ih0 _ _ _
      | exact LeO.none _
      | refine LeO.ite ?_ ?_
      | refine LeO.bind ?_ (fun _ => ?_)
set_option maxHeartbeats 8000000 in
set_option maxRecDepth 100000 in
theorem seineref01_Bytes.calls (k : Nat) (a0 : ByteArray) (r : ByteArray) (w : World) (h : seineref01_Bytes.f k a0 = some r) :
    Calls Try.prog 14 #[.string a0] w fun e w' => e = .returned (.string r) ∧ Below w.heap.size w w' := by
  have HB := Aside0.mk (Below.refl w.heap.size w)
  have H : (seineref01_Bytes.l0 k a0 (⟨#[]⟩ : ByteArray) 0) = some r := h
  clear h
  have H' := Aside0.mk H
  clear H
  go_enter Try.func14, Try.ntmps14
  go_wp2
  go_loopg [3, 4] k (fun kq v3 v4 w' => ∃ (x3_1 : ByteArray) (x4_1 : Int), v3 = .string x3_1 ∧ v4 = .int .i64 x4_1 ∧ Aside0 (seineref01_Bytes.l0 kq a0 x3_1 x4_1 = some r) ∧ Aside0 (kq ≤ k) ∧ Aside0 (Below w.heap.size w w'))
  case atStart => exact ⟨((⟨#[]⟩ : ByteArray)), (0), (by first | rfl | (simp; done) | (simp [*]; done) | (simp; exact (by intro a b; cases a <;> cases b <;> rfl : ∀ a b : Bool, (a == b) = (!(a != b))) _ _)), (by first | rfl | (simp; done) | (simp [*]; done) | (simp; exact (by intro a b; cases a <;> cases b <;> rfl : ∀ a b : Bool, (a == b) = (!(a != b))) _ _)), H', ⟨Nat.le_refl _⟩, ⟨by repeat (first | (with_reducible first | exact HB.out | apply below_alloc | apply pw_below_drewN | apply below_drew1) | exact HB.out)⟩⟩
  case round =>
    clear H'
    try clear c1
    obtain ⟨x3_1, x4_1, rfl, rfl, HA, HK1, HB⟩ := hrel
    cases gk with
    | zero => exact absurd HA.out (by simp [seineref01_Bytes.l0])
    | succ k1 =>
      have H := HA.out
      clear HA
      simp only [seineref01_Bytes.l0] at H
      by_cases c2 : x4_1 < (a0.size : Int)
      · rw [if_pos c2] at H
        have c2b0 : decide (x4_1 < (a0.size : Int)) = true := decide_eq_true c2
        clear c2
        by_cases c3 : 0 ≤ x4_1
        · rw [if_pos c3] at H
          have c3b0 : decide (0 ≤ x4_1) = true := decide_eq_true c3
          clear c3
          replace H := Option.bind_eq_some_iff.mp H
          obtain ⟨t111, A50, H⟩ := H
          replace H : ((some (([t111] : List Int) : List Int)).bind fun y112 => (if x3_1.size + (strOfNums y112).size ≤ 9223372036854775807 then (seineref01_Bytes.l0 k1 a0 (x3_1 ++ (strOfNums y112)) (wrap64 (x4_1 + 1))) else (none))) = some r := H
          have A5 := Aside0.mk A50
          clear A50
          obtain ⟨y112, hy112⟩ : ∃ y_ : List Int, y_ = (([t111] : List Int)) := ⟨_, rfl⟩
          replace H : (if x3_1.size + (strOfNums y112).size ≤ 9223372036854775807 then (seineref01_Bytes.l0 k1 a0 (x3_1 ++ (strOfNums y112)) (wrap64 (x4_1 + 1))) else (none)) = some r := by first | (rw [hy112]; with_reducible exact H) | (have H2_ := (Option.bind_some _ _).symm.trans H; rw [hy112]; with_reducible exact H2_) | (have H2_ := (Option.bind_some _ _).symm.trans H; with_reducible exact H2_) | with_reducible exact H | (rw [hy112]; exact H) | exact H
          have Ny112 := Aside0.mk hy112
          clear hy112
          by_cases c6 : x3_1.size + (strOfNums y112).size ≤ 9223372036854775807
          · rw [if_pos c6] at H
            have c6b0 := eq_true c6
            have c6b1 : decide (x3_1.size + (strOfNums y112).size ≤ 9223372036854775807) = true := decide_eq_true c6
            try have c6b2 : (9223372036854775807 < x3_1.size + (strOfNums y112).size) = False := eq_false (Nat.not_lt.2 c6)
            have H' := Aside0.mk H
            clear H
            have p4 : 0 ≤ (x4_1 : Int) := of_decide_eq_true (by first | (with_reducible assumption) | assumption)
            have q4 : x4_1 < (a0.size : Int) := of_decide_eq_true (by first | (with_reducible assumption) | assumption)
            have hx4 := bt_at a0 x4_1
            replace p4 := eq_true p4
            replace q4 := eq_true q4
            go_wp2_with (first | ((with_reducible refine gate_callee (f := 25) rfl ?_); refine goesL_ (some 15) rfl rfl Try.func25 (by kernel_rfl) rfl #[.int .u8 (bt a0 x4_1)] rfl (by (try simp only [List.map_toArray, List.map_cons, List.map_nil]); first | done | rfl | (simp only [List.length_drop, List.length_take]; rfl)) ?_; (with_reducible refine (seineref01_Byte.calls (bt a0 x4_1) t111 _ A5.out).mono ?_); rintro e w' ⟨rfl, ⟨nd, rfl⟩⟩; refine ⟨_, rfl, ?_⟩) | ((with_reducible refine gate_dst (N := 16) rfl ?_); refine Kd.R_lit (Kd.int .u8) _ 5 ?hg (N := 16) ?hd (xs := ([t111] : List Int)) (inner := [.int .u8 t111]) (ok := fun _ => True) (okp := fun _ => True) ?hr ?hp (fun _ hk => hk) trivial (Below.refl _ _) (Nat.le_refl _) (by simp) ?_; (case hd => rfl); (case hg => rfl); (case hr => first | (go_simp; done) | (go_simp; rfl)); (case hp => exact (Reps.one (show Kd.M (Kd.int .u8) _ _ _ t111 [.int .u8 t111] from rfl) (Reps.none _ _))); intro v113 w7 ho8 hb hg_ hnew_; clear hg_ hnew_; (first | rw [← Ny112.out] at ho8 | (simp only [Int.reduceToNat] at ho8; rw [← Ny112.out] at ho8)); have n0_ := Aside0.mk (Kd.R_lower ho8 (below_size (by repeat (first | (with_reducible first | exact HB.out | apply below_alloc | apply pw_below_drewN | apply below_drew1) | exact HB.out)))); have n1_ := Aside0.mk (below_step (by repeat (first | (with_reducible first | exact HB.out | apply below_alloc | apply pw_below_drewN | apply below_drew1) | exact HB.out)) hb); clear HB; have HO114 := n0_; have HB := n1_; clear n0_ n1_; clear hb ho8; have hcv9 := own_string (P := Try.prog) Try.underlying22 Try.underlying5 Try.underlying9 (Kd.own_of_R HO114.out)))
            go_roundg k1
            case measure => have := HK1.out; omega
            case rel => exact ⟨(x3_1 ++ (strOfNums y112)), (wrap64 (x4_1 + 1)), (by first | rfl | (simp; done) | (simp [*]; done) | (simp; exact (by intro a b; cases a <;> cases b <;> rfl : ∀ a b : Bool, (a == b) = (!(a != b))) _ _)), (by first | rfl | (simp; done) | (simp [*]; done) | (simp; exact (by intro a b; cases a <;> cases b <;> rfl : ∀ a b : Bool, (a == b) = (!(a != b))) _ _)), H', ⟨by have := HK1.out; omega⟩, ⟨by repeat (first | (with_reducible first | exact HB.out | apply below_alloc | apply pw_below_drewN | apply below_drew1) | exact HB.out)⟩⟩
          · rw [if_neg c6] at H
            exact absurd H (by simp)
        · rw [if_neg c3] at H
          exact absurd H (by simp)
      · rw [if_neg c2] at H
        have c2b0 : decide (x4_1 < (a0.size : Int)) = false := decide_eq_false c2
        clear c2
        obtain rfl := Option.some.inj H
        go_wp2
        go_ret
        exact ⟨by first | rfl | (simp [errW_none, errW_some] <;> rfl) | (simp [*, errW_none, errW_some] <;> rfl), by repeat (first | (with_reducible first | exact HB.out | apply below_alloc | apply pw_below_drewN | apply below_drew1) | exact HB.out)⟩

def numsB (s : ByteArray) : List Int := s.data.toList.map fun b => (b.toNat : Int)
theorem numsB_len (s : ByteArray) : (numsB s).length = s.size := by unfold numsB; rw [List.length_map, Array.length_toList]; rfl
theorem bytes_C (w : World) (s : ByteArray) (hm : s.size ≤ 9223372036854775807) : Kd.C (Kd.int .u8) (Lib.bytesWorld w 5 s) (some ⟨w.heap.size, 0, none⟩) s.size (numsB s) := by
  have hl := numsB_len s
  refine Kd.C_of_reads (d := (0 : Int)) (h1 := fun _ => rfl) ⟨hl, hm, fun _ => ⟨_, rfl, fun j hj => ?_⟩⟩
  rw [add_plain, Lib.bytesWorld_cell _ _ _ j hj]
  have : j < s.data.toList.length := by rw [Array.length_toList]; exact hj
  simp [numsB, List.getD_eq_getElem?_getD, List.getElem?_eq_getElem this]
theorem bytes_below (w : World) (s : ByteArray) : Below w.heap.size w (Lib.bytesWorld w 5 s) :=
  ⟨rfl, rfl, rfl, by rw [Lib.bytesWorld_size]; omega, fun k hk => Lib.bytesWorld_at_old w 5 s k hk⟩
theorem filter_call (m k : Nat) (w : World) (A0 : Option Addr) (n c0 : Nat) (l0 : List Int) (A1 : Option Addr) (n1 c1 : Nat) (l1 r : List S26) (x y : Bool) (hn : l0.length = n) (hr : Kd.C (Kd.int .u8) w A0 n l0) (hc : n ≤ c0) (hn1 : l1.length = n1) (hr1 : Kd.C k26 w A1 n1 l1) (hc1 : n1 ≤ c1) (h : admit_Filter.f k l0 l1 x y = some r) :
    CallsIn Fence.wide m Try.prog 13 #[.slice A0 n c0, .slice A1 n1 c1, .bool x, .bool y] w fun e w' => ∃ v0_ : Value, e = .returned v0_ ∧ Kd.R k26 26 w' w.heap.size (fun _ => True) v0_ r ∧ Below w.heap.size w w' := by
  subst hn
  subst hn1
  exact callsIn_wide.2 (admit_Filter.calls k A0 c0 l0 A1 c1 l1 x y r w hr hc hr1 hc1 h)
section
attribute [local go_sem] Oper.semAt_some
set_option maxHeartbeats 8000000 in
set_option maxRecDepth 100000 in
theorem law_fold (k : Nat) (A0 : Option Addr) (c0 : Nat) (l0 : List Int) (A1 : Option Addr) (c1 : Nat) (l1 : List S26) (x y : Bool) (s : ByteArray) (r1 r2 : List S26) (b : Bool) (w : World) (hr0 : Kd.C (Kd.int .u8) w A0 l0.length l0) (hc0 : l0.length ≤ c0) (hr1 : Kd.C k26 w A1 l1.length l1) (hc1 : l1.length ≤ c1)
    (h1 : (l0.length : Int) ≤ 300) (h2 : (l1.length : Int) ≤ 100) (hs : seineref01_Bytes.f k (strOfNums l0) = some s) (hsz : s.size ≤ 1000) (hf1 : admit_Filter.f k l0 l1 x y = some r1) (hf2 : admit_Filter.f k (numsB s) l1 x y = some r2) (hb : seineref03_Same.f k r1 r2 = some b) :
    Calls Try.prog 5 #[.slice A0 l0.length c0, .slice A1 l1.length c1, .bool x, .bool y] w fun e w' => e = .returned (.bool b) ∧ Below w.heap.size w w' := by
  refine (callsIn_wide (n := 4)).1 ?_
  refine callsIn_of_wp Try.func5 rfl trivial ?_ rfl
  simp only [Try.ntmps5, List.size_toArray, List.length_cons, List.length_nil, Nat.reduceAdd, Nat.reduceSub, Array.replicate_succ, Array.replicate_zero, List.push_toArray, List.append_toArray, List.nil_append, List.cons_append]
  have d1 : decide ((l0.length : Int) > 300) = false := decide_eq_false (by omega)
  have d2 : decide ((l1.length : Int) > 100) = false := decide_eq_false (by omega)
  have f8 : Fence.wide.fn 8 := trivial
  have HS := Aside0.mk hs
  have HF1 := Aside0.mk hf1
  have HF2 := Aside0.mk hf2
  have HB := Aside0.mk hb
  have HR0 := Aside0.mk hr0
  have HR1 := Aside0.mk hr1
  clear hs hf1 hf2 hb hr0 hr1
  gi_wp2_with (gi_at_call 8; refine (callsIn_wide.2 (seinelaw22_awake.calls true _ rfl)).mono ?_; rintro e w1 ⟨rfl, hb1⟩)
  have hmix : Try.prog.follows .mixedOrders = true := by kernel_rfl
  have f12 : Fence.wide.fn 12 := trivial
  have f13 : Fence.wide.fn 13 := trivial
  have f14 : Fence.wide.fn 14 := trivial
  have hcb := fun (W : World) => Lib.run_convert_string_bytes (P := Try.prog) W 9 22 5 s Try.underlying9 Try.underlying22 Try.underlying5
  have HBA : Below w.heap.size w w1.drew := below_drew hb1
  have hcvA := Kd.C_string (P := Try.prog) (A := A0) (c := c0) Try.underlying22 Try.underlying5 Try.underlying9 (Kd.C_below HR0.out HBA)
  refine wpIn_mono (Q := Exit.then ?KK (fun _ _ _ => False)) ?reg (fun e a w h => by
    cases e with
    | normal => exact h
    | _ => exact h.elim)
  gi_region_with_o (first
    | (gi_at_call 13; with_reducible refine (filter_call _ k _ A0 _ c0 l0 A1 _ c1 l1 r1 x y rfl (Kd.C_below HR0.out HBA) hc0 rfl (Kd.C_below HR1.out HBA) hc1 HF1.out).mono ?_; rintro e w2 ⟨v2, rfl, hr2, hb2⟩; have HB2 : Below w.heap.size w w2 := below_step HBA hb2; obtain ⟨A2, c2, hv2⟩ := Kd.R_slice hr2; subst hv2; have HR2 := Aside0.mk hr2; clear hr2 hb2; have hcvB := Kd.C_string (P := Try.prog) (A := A0) (c := c0) Try.underlying22 Try.underlying5 Try.underlying9 (Kd.C_below HR0.out HB2))
    | (gi_at_call 14; with_reducible refine (callsIn_wide.2 (seineref01_Bytes.calls k (strOfNums l0) s _ HS.out)).mono ?_; rintro e w3 ⟨rfl, hb3⟩; have HB3 : Below w.heap.size w w3 := below_step HB2 hb3; have HR3 := Aside0.mk (Kd.R_below (Kd.R_below HR2.out hb3) (bytes_below w3 s)); have HB4 : Below w.heap.size w (Lib.bytesWorld w3 5 s) := below_step HB3 (bytes_below w3 s); have HC4 := Aside0.mk (bytes_C w3 s (by omega)); clear hb3)
    | (gi_at_call 13; with_reducible refine (filter_call _ k _ (some ⟨w3.heap.size, 0, none⟩) _ _ (numsB s) A1 _ c1 l1 r2 x y (numsB_len s) HC4.out (grownCap_ge _ _ _ _) rfl (Kd.C_below HR1.out HB4) hc1 HF2.out).mono ?_; rintro e w5 ⟨v5, rfl, hr5, hb5⟩; have HB5 : Below w.heap.size w w5 := below_step HB4 hb5; have HR6 := Aside0.mk (Kd.R_below HR3.out hb5); obtain ⟨A5, c5, hv5⟩ := Kd.R_slice hr5; subst hv5; have HR5 := Aside0.mk hr5; clear hr5 hb5)
    | (gi_at_call 12; with_reducible refine (callsIn_wide.2 (seineref03_Same.calls k A2 c2 r1 A5 c5 r2 b _ (Kd.R_reads' HR6.out).2.2 (Kd.R_reads' HR6.out).2.1 (Kd.R_reads' HR5.out).2.2 (Kd.R_reads' HR5.out).2.1 HB.out)).mono ?_; rintro e w6 ⟨rfl, ⟨nd, rfl⟩⟩))
  all_goals gi_wp2
  all_goals refine bodyPost_ret (results_tmp rfl _ _ _) rfl ?_
  all_goals exact ⟨rfl, pw_below_drewN HB5 _⟩
set_option maxHeartbeats 8000000 in
set_option maxRecDepth 100000 in
theorem law_long (A0 : Option Addr) (c0 : Nat) (n0 : Nat) (A1 : Option Addr) (c1 n1 : Nat) (x y : Bool) (w : World) (h : (n0 : Int) > 300 ∨ ¬ (n0 : Int) > 300 ∧ (n1 : Int) > 100) :
    Calls Try.prog 5 #[.slice A0 n0 c0, .slice A1 n1 c1, .bool x, .bool y] w fun e w' => e = .returned (.bool true) ∧ Below w.heap.size w w' := by
  refine (callsIn_wide (n := 4)).1 ?_
  refine callsIn_of_wp Try.func5 rfl trivial ?_ rfl
  simp only [Try.ntmps5, List.size_toArray, List.length_cons, List.length_nil, Nat.reduceAdd, Nat.reduceSub, Array.replicate_succ, Array.replicate_zero, List.push_toArray, List.append_toArray, List.nil_append, List.cons_append]
  have f8 : Fence.wide.fn 8 := trivial
  rcases h with h | ⟨h, h2⟩
  · have d1 : decide ((n0 : Int) > 300) = true := decide_eq_true h
    gi_wp2_with (gi_at_call 8; refine (callsIn_wide.2 (seinelaw22_awake.calls true _ rfl)).mono ?_; rintro e w1 ⟨rfl, hb1⟩)
    refine bodyPost_ret (results_tmp rfl _ _ _) rfl ?_
    exact ⟨rfl, hb1⟩
  · have d1 : decide ((n0 : Int) > 300) = false := decide_eq_false h
    have d2 : decide ((n1 : Int) > 100) = true := decide_eq_true h2
    gi_wp2_with (gi_at_call 8; refine (callsIn_wide.2 (seinelaw22_awake.calls true _ rfl)).mono ?_; rintro e w1 ⟨rfl, hb1⟩)
    refine bodyPost_ret (results_tmp rfl _ _ _) rfl ?_
    exact ⟨rfl, hb1⟩
end
def seinelaw22_AdmitFold.f (k : Nat) (l0 : List Int) (l1 : List (S26)) (a2 : Bool) (a3 : Bool) : Option Bool := if (l0.length : Int) > 300 then some true else if (l1.length : Int) > 100 then some true else (seineref01_Bytes.f k (strOfNums l0)).bind fun s => if s.size ≤ 1000 then (admit_Filter.f k l0 l1 a2 a3).bind fun r1 => (admit_Filter.f k (numsB s) l1 a2 a3).bind fun r2 => seineref03_Same.f k r1 r2 else none
theorem seinelaw22_AdmitFold.calls (k : Nat) (A0 : Option Addr) (c0 : Nat) (l0 : List Int) (A1 : Option Addr) (c1 : Nat) (l1 : List (S26)) (a2 : Bool) (a3 : Bool) (r : Bool) (w : World) (hr0 : Kd.C (Kd.int .u8) w A0 l0.length l0) (hc0 : l0.length ≤ c0) (hr1 : Kd.C k26 w A1 l1.length l1) (hc1 : l1.length ≤ c1) (h : seinelaw22_AdmitFold.f k l0 l1 a2 a3 = some r) :
    Calls Try.prog 5 #[.slice A0 l0.length c0, .slice A1 l1.length c1, .bool a2, .bool a3] w fun e w' => e = .returned (.bool r) ∧ Below w.heap.size w w' := by
  unfold seinelaw22_AdmitFold.f at h
  by_cases h1 : (l0.length : Int) > 300
  · rw [if_pos h1] at h
    obtain rfl := Option.some.inj h
    exact law_long A0 c0 _ A1 c1 _ a2 a3 w (Or.inl h1)
  rw [if_neg h1] at h
  by_cases h2 : (l1.length : Int) > 100
  · rw [if_pos h2] at h
    obtain rfl := Option.some.inj h
    exact law_long A0 c0 _ A1 c1 _ a2 a3 w (Or.inr ⟨h1, h2⟩)
  rw [if_neg h2] at h
  obtain ⟨s, hs, h⟩ := Option.bind_eq_some_iff.mp h
  by_cases h3 : s.size ≤ 1000
  · rw [if_pos h3] at h
    obtain ⟨r1, hf1, h⟩ := Option.bind_eq_some_iff.mp h
    obtain ⟨r2, hf2, h⟩ := Option.bind_eq_some_iff.mp h
    exact law_fold k A0 c0 l0 A1 c1 l1 a2 a3 s r1 r2 r w hr0 hc0 hr1 hc1 (by omega) (by omega) hs h3 hf1 hf2 h
  · rw [if_neg h3] at h
    cases h

end Go.Proofs.Ytfcolpemkbpgnaa.PAdmitFold
