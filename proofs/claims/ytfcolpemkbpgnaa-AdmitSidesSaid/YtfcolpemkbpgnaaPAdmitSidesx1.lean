/- Functions of the translation and what they come to: laid by a program of this session (xprint.py) beside contracts proved by hand. No condition. -/
import Derived.Test.YtfcolpemkbpgnaaPAdmitSidesx0
namespace Go.Proofs.Ytfcolpemkbpgnaa.PAdmitSides
open Go.RowKit Go.Proofs.YtfcolpemkbpgnaaW.PrintWords Go.Proofs.YtfcolpemkbpgnaaW.PrintLast Go.Proofs.YtfcolpemkbpgnaaW.PrintMore
attribute [local go_sem] max2_int min2_int max_two min_two max_three min_three max_four min_four   -- for this text's walks alone
set_option linter.unusedVariables false
set_option linter.unusedSimpArgs false

/-! ### admit_piece: function 22 -/
def admit_piece.f (l0 : List Int) (a1_0 : Int) (a1_1 : Int) : Option (Bool) := if a1_0 ≥ 0 then (if a1_0 ≤ a1_1 then (some (decide (a1_1 ≤ (l0.length : Int)))) else (some false)) else (some false)
set_option maxHeartbeats 8000000 in
set_option maxRecDepth 100000 in
theorem admit_piece.calls (A0 : Option Addr) (c0 : Nat) (l0 : List Int) (a1_0 : Int) (a1_1 : Int) (r : Bool) (w : World) (hr0 : Kd.C (Kd.int .u8) w A0 l0.length l0) (hc0 : l0.length ≤ c0) (h : admit_piece.f l0 a1_0 a1_1 = some r) :
    Calls Try.prog 22 #[.slice A0 l0.length c0, .agg #[.int .i64 a1_0, .int .i64 a1_1]] w fun e w' => e = .returned (.bool r) ∧ Below w.heap.size w w' := by
  have hu26 := Try.underlying26
  have HR0 := Aside0.mk hr0
  have HC0 := Aside0.mk hc0
  clear hr0 hc0
  have HB := Aside0.mk (Below.refl w.heap.size w)
  have H : (if a1_0 ≥ 0 then (if a1_0 ≤ a1_1 then (some (decide (a1_1 ≤ (l0.length : Int)))) else (some false)) else (some false)) = some r := h
  clear h
  by_cases c3 : a1_0 ≥ 0
  · rw [if_pos c3] at H
    have c3b0 : decide (0 ≤ a1_0) = true := decide_eq_true c3
    clear c3
    by_cases c4 : a1_0 ≤ a1_1
    · rw [if_pos c4] at H
      have c4b0 : decide (a1_0 ≤ a1_1) = true := decide_eq_true c4
      clear c4
      obtain rfl := Option.some.inj H
      go_enter Try.func22, Try.ntmps22
      go_wp2_with (first | ((with_reducible refine gate_dst (N := 3) rfl ?_); (try (refine gate_guard (by rfl) ?_; dsimp only)); refine box_event ?hg (N := 3) ?hd (cs := #[.int .i64 a1_0, .int .i64 a1_1]) (t := 26) ?hr ?_; (case hd => rfl); (case hg => rfl); (case hr => first | (go_simp; done) | (go_simp; rfl)); intro gb101 hg w5 hbox hb; have n0_ := Aside0.mk (below_step (by repeat (first | (with_reducible first | exact HB.out | apply below_alloc | apply pw_below_drewN | apply below_drew1) | exact HB.out)) hb); have n1_ := Aside0.mk (hbox); have n2_ := Aside0.mk ((by rw [hg]; exact (below_size (by repeat (first | (with_reducible first | exact HB.out | apply below_alloc | apply pw_below_drewN | apply below_drew1) | exact HB.out))) : w.heap.size ≤ gb101)); have n3_ := Aside0.mk ((by rw [hg]; exact (below_size (by repeat (first | (with_reducible first | exact HB.out | apply below_alloc | apply pw_below_drewN | apply below_drew1) | exact HB.out))) : w.heap.size ≤ gb101)); clear HB; have HB := n0_; have BK101 := n1_; have GW101 := n2_; have GE101 := n3_; clear n0_ n1_ n2_ n3_; clear hb hbox hg; have hcz6_0 : w5.cell? ⟨gb101, 0, none⟩ = some (.int .i64 a1_0) := (blk_cell BK101.out 0).trans rfl; have hcz6_1 : w5.cell? ⟨gb101, 1, none⟩ = some (.int .i64 a1_1) := (blk_cell BK101.out 1).trans rfl; have hfz6_0 := blk_frozen BK101.out 0; have hfz6_1 := blk_frozen BK101.out 1))
      go_ret
      exact ⟨by first | rfl | (simp [errW_none, errW_some] <;> rfl) | (simp [*, errW_none, errW_some] <;> rfl), by repeat (first | (with_reducible first | exact HB.out | apply below_alloc | apply pw_below_drewN | apply below_drew1 | refine below_set ?_ GE101.out) | exact HB.out)⟩
    · rw [if_neg c4] at H
      have c4b0 : decide (a1_0 ≤ a1_1) = false := decide_eq_false c4
      clear c4
      obtain rfl := Option.some.inj H
      go_enter Try.func22, Try.ntmps22
      go_wp2_with (first | ((with_reducible refine gate_dst (N := 3) rfl ?_); (try (refine gate_guard (by rfl) ?_; dsimp only)); refine box_event ?hg (N := 3) ?hd (cs := #[.int .i64 a1_0, .int .i64 a1_1]) (t := 26) ?hr ?_; (case hd => rfl); (case hg => rfl); (case hr => first | (go_simp; done) | (go_simp; rfl)); intro gb101 hg w7 hbox hb; have n0_ := Aside0.mk (below_step (by repeat (first | (with_reducible first | exact HB.out | apply below_alloc | apply pw_below_drewN | apply below_drew1) | exact HB.out)) hb); have n1_ := Aside0.mk (hbox); have n2_ := Aside0.mk ((by rw [hg]; exact (below_size (by repeat (first | (with_reducible first | exact HB.out | apply below_alloc | apply pw_below_drewN | apply below_drew1) | exact HB.out))) : w.heap.size ≤ gb101)); have n3_ := Aside0.mk ((by rw [hg]; exact (below_size (by repeat (first | (with_reducible first | exact HB.out | apply below_alloc | apply pw_below_drewN | apply below_drew1) | exact HB.out))) : w.heap.size ≤ gb101)); clear HB; have HB := n0_; have BK101 := n1_; have GW101 := n2_; have GE101 := n3_; clear n0_ n1_ n2_ n3_; clear hb hbox hg; have hcz8_0 : w7.cell? ⟨gb101, 0, none⟩ = some (.int .i64 a1_0) := (blk_cell BK101.out 0).trans rfl; have hcz8_1 : w7.cell? ⟨gb101, 1, none⟩ = some (.int .i64 a1_1) := (blk_cell BK101.out 1).trans rfl; have hfz8_0 := blk_frozen BK101.out 0; have hfz8_1 := blk_frozen BK101.out 1))
      go_ret
      exact ⟨by first | rfl | (simp [errW_none, errW_some] <;> rfl) | (simp [*, errW_none, errW_some] <;> rfl), by repeat (first | (with_reducible first | exact HB.out | apply below_alloc | apply pw_below_drewN | apply below_drew1 | refine below_set ?_ GE101.out) | exact HB.out)⟩
  · rw [if_neg c3] at H
    have c3b0 : decide (0 ≤ a1_0) = false := decide_eq_false c3
    clear c3
    obtain rfl := Option.some.inj H
    go_enter Try.func22, Try.ntmps22
    go_wp2_with (first | ((with_reducible refine gate_dst (N := 3) rfl ?_); (try (refine gate_guard (by rfl) ?_; dsimp only)); refine box_event ?hg (N := 3) ?hd (cs := #[.int .i64 a1_0, .int .i64 a1_1]) (t := 26) ?hr ?_; (case hd => rfl); (case hg => rfl); (case hr => first | (go_simp; done) | (go_simp; rfl)); intro gb101 hg w9 hbox hb; have n0_ := Aside0.mk (below_step (by repeat (first | (with_reducible first | exact HB.out | apply below_alloc | apply pw_below_drewN | apply below_drew1) | exact HB.out)) hb); have n1_ := Aside0.mk (hbox); have n2_ := Aside0.mk ((by rw [hg]; exact (below_size (by repeat (first | (with_reducible first | exact HB.out | apply below_alloc | apply pw_below_drewN | apply below_drew1) | exact HB.out))) : w.heap.size ≤ gb101)); have n3_ := Aside0.mk ((by rw [hg]; exact (below_size (by repeat (first | (with_reducible first | exact HB.out | apply below_alloc | apply pw_below_drewN | apply below_drew1) | exact HB.out))) : w.heap.size ≤ gb101)); clear HB; have HB := n0_; have BK101 := n1_; have GW101 := n2_; have GE101 := n3_; clear n0_ n1_ n2_ n3_; clear hb hbox hg; have hcz10_0 : w9.cell? ⟨gb101, 0, none⟩ = some (.int .i64 a1_0) := (blk_cell BK101.out 0).trans rfl; have hcz10_1 : w9.cell? ⟨gb101, 1, none⟩ = some (.int .i64 a1_1) := (blk_cell BK101.out 1).trans rfl; have hfz10_0 := blk_frozen BK101.out 0; have hfz10_1 := blk_frozen BK101.out 1))
    go_ret
    exact ⟨by first | rfl | (simp [errW_none, errW_some] <;> rfl) | (simp [*, errW_none, errW_some] <;> rfl), by repeat (first | (with_reducible first | exact HB.out | apply below_alloc | apply pw_below_drewN | apply below_drew1 | refine below_set ?_ GE101.out) | exact HB.out)⟩

/-! ### fold_Byte: function 34 -/
def fold_Byte.f (a0 : Int) : Option (Int) := if 65 ≤ a0 then (if a0 ≤ 90 then (some ((((a0 + 97) % 256) - 65) % 256)) else (some a0)) else (some a0)
set_option maxHeartbeats 8000000 in
set_option maxRecDepth 100000 in
theorem fold_Byte.calls (a0 : Int) (r : Int) (w : World) (h : fold_Byte.f a0 = some r) :
    Calls Try.prog 34 #[.int .u8 a0] w fun e w' => e = .returned (.int .u8 r) ∧ Drawn0 w w' := by
  have H : (if 65 ≤ a0 then (if a0 ≤ 90 then (some ((((a0 + 97) % 256) - 65) % 256)) else (some a0)) else (some a0)) = some r := h
  clear h
  by_cases c2 : 65 ≤ a0
  · rw [if_pos c2] at H
    have c2b0 : decide (65 ≤ a0) = true := decide_eq_true c2
    clear c2
    by_cases c3 : a0 ≤ 90
    · rw [if_pos c3] at H
      have c3b0 : decide (a0 ≤ 90) = true := decide_eq_true c3
      clear c3
      obtain rfl := Option.some.inj H
      go_enter Try.func34, Try.ntmps34
      go_wp2
      go_ret
      exact ⟨by first | rfl | (simp; done) | (simp [*]; done) | (simp; exact (by intro a b; cases a <;> cases b <;> rfl : ∀ a b : Bool, (a == b) = (!(a != b))) _ _), by repeat (first | exact Drawn0.refl _ | apply Drawn0.step)⟩
    · rw [if_neg c3] at H
      have c3b0 : decide (a0 ≤ 90) = false := decide_eq_false c3
      clear c3
      obtain rfl := Option.some.inj H
      go_enter Try.func34, Try.ntmps34
      go_wp2
      go_ret
      exact ⟨by first | rfl | (simp; done) | (simp [*]; done) | (simp; exact (by intro a b; cases a <;> cases b <;> rfl : ∀ a b : Bool, (a == b) = (!(a != b))) _ _), by repeat (first | exact Drawn0.refl _ | apply Drawn0.step)⟩
  · rw [if_neg c2] at H
    have c2b0 : decide (65 ≤ a0) = false := decide_eq_false c2
    clear c2
    obtain rfl := Option.some.inj H
    go_enter Try.func34, Try.ntmps34
    go_wp2
    go_ret
    exact ⟨by first | rfl | (simp; done) | (simp [*]; done) | (simp; exact (by intro a b; cases a <;> cases b <;> rfl : ∀ a b : Bool, (a == b) = (!(a != b))) _ _), by repeat (first | exact Drawn0.refl _ | apply Drawn0.step)⟩

/-! ### fold_Word: function 24 -/
def fold_Word.f (a0 : Int) : Option (Bool) := (fold_Byte.f a0).bind fun t102 => (if 97 ≤ t102 then (if t102 ≤ 122 then (some true) else (if 48 ≤ t102 then (if t102 ≤ 57 then (some true) else (some (t102 == 95))) else (some (t102 == 95)))) else (if 48 ≤ t102 then (if t102 ≤ 57 then (some true) else (some (t102 == 95))) else (some (t102 == 95))))
set_option maxHeartbeats 8000000 in
set_option maxRecDepth 100000 in
theorem fold_Word.calls (a0 : Int) (r : Bool) (w : World) (h : fold_Word.f a0 = some r) :
    Calls Try.prog 24 #[.int .u8 a0] w fun e w' => e = .returned (.bool r) ∧ Drawn0 w w' := by
  have H : ((fold_Byte.f a0).bind fun t102 => (if 97 ≤ t102 then (if t102 ≤ 122 then (some true) else (if 48 ≤ t102 then (if t102 ≤ 57 then (some true) else (some (t102 == 95))) else (some (t102 == 95)))) else (if 48 ≤ t102 then (if t102 ≤ 57 then (some true) else (some (t102 == 95))) else (some (t102 == 95))))) = some r := h
  clear h
  replace H := Option.bind_eq_some_iff.mp H
  obtain ⟨t102, A20, H⟩ := H
  replace H : (if 97 ≤ t102 then (if t102 ≤ 122 then (some true) else (if 48 ≤ t102 then (if t102 ≤ 57 then (some true) else (some (t102 == 95))) else (some (t102 == 95)))) else (if 48 ≤ t102 then (if t102 ≤ 57 then (some true) else (some (t102 == 95))) else (some (t102 == 95)))) = some r := H
  have A2 := Aside0.mk A20
  clear A20
  by_cases c3 : 97 ≤ t102
  · rw [if_pos c3] at H
    have c3b0 : decide (97 ≤ t102) = true := decide_eq_true c3
    clear c3
    by_cases c4 : t102 ≤ 122
    · rw [if_pos c4] at H
      have c4b0 : decide (t102 ≤ 122) = true := decide_eq_true c4
      clear c4
      obtain rfl := Option.some.inj H
      go_enter Try.func24, Try.ntmps24
      go_wp2_with (first | ((with_reducible refine gate_callee (f := 34) rfl ?_); refine goesL_ (some 4) rfl rfl Try.func34 (by kernel_rfl) rfl #[.int .u8 a0] rfl (by (try simp only [List.map_toArray, List.map_cons, List.map_nil]); first | done | rfl | (simp only [List.length_drop, List.length_take]; rfl)) ?_; (with_reducible refine (fold_Byte.calls a0 t102 _ A2.out).mono ?_); rintro e w' ⟨rfl, ⟨nd, rfl⟩⟩; refine ⟨_, rfl, ?_⟩))
      go_ret
      exact ⟨by first | rfl | (simp; done) | (simp [*]; done) | (simp; exact (by intro a b; cases a <;> cases b <;> rfl : ∀ a b : Bool, (a == b) = (!(a != b))) _ _), by repeat (first | exact Drawn0.refl _ | apply Drawn0.step)⟩
    · rw [if_neg c4] at H
      have c4b0 : decide (t102 ≤ 122) = false := decide_eq_false c4
      clear c4
      by_cases c5 : 48 ≤ t102
      · rw [if_pos c5] at H
        have c5b0 : decide (48 ≤ t102) = true := decide_eq_true c5
        clear c5
        by_cases c6 : t102 ≤ 57
        · rw [if_pos c6] at H
          have c6b0 : decide (t102 ≤ 57) = true := decide_eq_true c6
          clear c6
          obtain rfl := Option.some.inj H
          go_enter Try.func24, Try.ntmps24
          go_wp2_with (first | ((with_reducible refine gate_callee (f := 34) rfl ?_); refine goesL_ (some 4) rfl rfl Try.func34 (by kernel_rfl) rfl #[.int .u8 a0] rfl (by (try simp only [List.map_toArray, List.map_cons, List.map_nil]); first | done | rfl | (simp only [List.length_drop, List.length_take]; rfl)) ?_; (with_reducible refine (fold_Byte.calls a0 t102 _ A2.out).mono ?_); rintro e w' ⟨rfl, ⟨nd, rfl⟩⟩; refine ⟨_, rfl, ?_⟩))
          go_ret
          exact ⟨by first | rfl | (simp; done) | (simp [*]; done) | (simp; exact (by intro a b; cases a <;> cases b <;> rfl : ∀ a b : Bool, (a == b) = (!(a != b))) _ _), by repeat (first | exact Drawn0.refl _ | apply Drawn0.step)⟩
        · rw [if_neg c6] at H
          have c6b0 : decide (t102 ≤ 57) = false := decide_eq_false c6
          clear c6
          obtain rfl := Option.some.inj H
          go_enter Try.func24, Try.ntmps24
          go_wp2_with (first | ((with_reducible refine gate_callee (f := 34) rfl ?_); refine goesL_ (some 4) rfl rfl Try.func34 (by kernel_rfl) rfl #[.int .u8 a0] rfl (by (try simp only [List.map_toArray, List.map_cons, List.map_nil]); first | done | rfl | (simp only [List.length_drop, List.length_take]; rfl)) ?_; (with_reducible refine (fold_Byte.calls a0 t102 _ A2.out).mono ?_); rintro e w' ⟨rfl, ⟨nd, rfl⟩⟩; refine ⟨_, rfl, ?_⟩))
          go_ret
          exact ⟨by first | rfl | (simp; done) | (simp [*]; done) | (simp; exact (by intro a b; cases a <;> cases b <;> rfl : ∀ a b : Bool, (a == b) = (!(a != b))) _ _), by repeat (first | exact Drawn0.refl _ | apply Drawn0.step)⟩
      · rw [if_neg c5] at H
        have c5b0 : decide (48 ≤ t102) = false := decide_eq_false c5
        clear c5
        obtain rfl := Option.some.inj H
        go_enter Try.func24, Try.ntmps24
        go_wp2_with (first | ((with_reducible refine gate_callee (f := 34) rfl ?_); refine goesL_ (some 4) rfl rfl Try.func34 (by kernel_rfl) rfl #[.int .u8 a0] rfl (by (try simp only [List.map_toArray, List.map_cons, List.map_nil]); first | done | rfl | (simp only [List.length_drop, List.length_take]; rfl)) ?_; (with_reducible refine (fold_Byte.calls a0 t102 _ A2.out).mono ?_); rintro e w' ⟨rfl, ⟨nd, rfl⟩⟩; refine ⟨_, rfl, ?_⟩))
        go_ret
        exact ⟨by first | rfl | (simp; done) | (simp [*]; done) | (simp; exact (by intro a b; cases a <;> cases b <;> rfl : ∀ a b : Bool, (a == b) = (!(a != b))) _ _), by repeat (first | exact Drawn0.refl _ | apply Drawn0.step)⟩
  · rw [if_neg c3] at H
    have c3b0 : decide (97 ≤ t102) = false := decide_eq_false c3
    clear c3
    by_cases c7 : 48 ≤ t102
    · rw [if_pos c7] at H
      have c7b0 : decide (48 ≤ t102) = true := decide_eq_true c7
      clear c7
      by_cases c8 : t102 ≤ 57
      · rw [if_pos c8] at H
        have c8b0 : decide (t102 ≤ 57) = true := decide_eq_true c8
        clear c8
        obtain rfl := Option.some.inj H
        go_enter Try.func24, Try.ntmps24
        go_wp2_with (first | ((with_reducible refine gate_callee (f := 34) rfl ?_); refine goesL_ (some 4) rfl rfl Try.func34 (by kernel_rfl) rfl #[.int .u8 a0] rfl (by (try simp only [List.map_toArray, List.map_cons, List.map_nil]); first | done | rfl | (simp only [List.length_drop, List.length_take]; rfl)) ?_; (with_reducible refine (fold_Byte.calls a0 t102 _ A2.out).mono ?_); rintro e w' ⟨rfl, ⟨nd, rfl⟩⟩; refine ⟨_, rfl, ?_⟩))
        go_ret
        exact ⟨by first | rfl | (simp; done) | (simp [*]; done) | (simp; exact (by intro a b; cases a <;> cases b <;> rfl : ∀ a b : Bool, (a == b) = (!(a != b))) _ _), by repeat (first | exact Drawn0.refl _ | apply Drawn0.step)⟩
      · rw [if_neg c8] at H
        have c8b0 : decide (t102 ≤ 57) = false := decide_eq_false c8
        clear c8
        obtain rfl := Option.some.inj H
        go_enter Try.func24, Try.ntmps24
        go_wp2_with (first | ((with_reducible refine gate_callee (f := 34) rfl ?_); refine goesL_ (some 4) rfl rfl Try.func34 (by kernel_rfl) rfl #[.int .u8 a0] rfl (by (try simp only [List.map_toArray, List.map_cons, List.map_nil]); first | done | rfl | (simp only [List.length_drop, List.length_take]; rfl)) ?_; (with_reducible refine (fold_Byte.calls a0 t102 _ A2.out).mono ?_); rintro e w' ⟨rfl, ⟨nd, rfl⟩⟩; refine ⟨_, rfl, ?_⟩))
        go_ret
        exact ⟨by first | rfl | (simp; done) | (simp [*]; done) | (simp; exact (by intro a b; cases a <;> cases b <;> rfl : ∀ a b : Bool, (a == b) = (!(a != b))) _ _), by repeat (first | exact Drawn0.refl _ | apply Drawn0.step)⟩
    · rw [if_neg c7] at H
      have c7b0 : decide (48 ≤ t102) = false := decide_eq_false c7
      clear c7
      obtain rfl := Option.some.inj H
      go_enter Try.func24, Try.ntmps24
      go_wp2_with (first | ((with_reducible refine gate_callee (f := 34) rfl ?_); refine goesL_ (some 4) rfl rfl Try.func34 (by kernel_rfl) rfl #[.int .u8 a0] rfl (by (try simp only [List.map_toArray, List.map_cons, List.map_nil]); first | done | rfl | (simp only [List.length_drop, List.length_take]; rfl)) ?_; (with_reducible refine (fold_Byte.calls a0 t102 _ A2.out).mono ?_); rintro e w' ⟨rfl, ⟨nd, rfl⟩⟩; refine ⟨_, rfl, ?_⟩))
      go_ret
      exact ⟨by first | rfl | (simp; done) | (simp [*]; done) | (simp; exact (by intro a b; cases a <;> cases b <;> rfl : ∀ a b : Bool, (a == b) = (!(a != b))) _ _), by repeat (first | exact Drawn0.refl _ | apply Drawn0.step)⟩

def isWord (c : Int) : Bool := (fold_Word.f c).getD false
theorem fold_Word_some (c : Int) : fold_Word.f c = some (isWord c) := by
  unfold isWord
  have h : ∃ b, fold_Word.f c = some b := by
    have h1 : ∃ d, fold_Byte.f c = some d := by unfold fold_Byte.f; (repeat' split) <;> exact ⟨_, rfl⟩
    obtain ⟨d, hd⟩ := h1
    unfold fold_Word.f
    rw [hd, Option.bind_some]
    (repeat' split) <;> exact ⟨_, rfl⟩
  obtain ⟨b, hb⟩ := h
  rw [hb]; rfl
def wordAt (l : List Int) (i : Int) : Bool := decide (0 ≤ i) && (decide (i < (l.length : Int)) && isWord (rd l i))

set_option maxHeartbeats 4000000 in
set_option maxRecDepth 100000 in
theorem free1_calls (i : Int) (A0 : Option Addr) (c0 : Nat) (l0 : List Int) (B : Nat) (w : World) (hB : w.cell? ⟨B, 0, none⟩ = some (.slice A0 l0.length c0)) (hr0 : Kd.C (Kd.int .u8) w A0 l0.length l0) :
    Calls Try.prog 23 #[.int .i64 i, .pointer (some ⟨B, 0, none⟩)] w fun e w' => e = .returned (.bool (wordAt l0 i)) ∧ Drawn0 w w' := by
  by_cases c1 : 0 ≤ i
  · by_cases c2 : i < (l0.length : Int)
    · obtain ⟨ad, rfl, hx⟩ := Kd.at_int hr0 i c1 c2
      have HH := Aside0.mk (show wordAt l0 i = isWord (rd l0 i) by simp [wordAt, c1, c2])
      have HW := Aside0.mk (fold_Word_some (rd l0 i))
      have c1b : decide (0 ≤ i) = true := decide_eq_true c1
      have c2b : decide (i < (l0.length : Int)) = true := decide_eq_true c2
      replace c1 := eq_true c1
      replace c2 := eq_true c2
      clear hr0
      go_enter Try.func23, Try.ntmps23
      go_wp2_with (go_at_call 24; refine (fold_Word.calls _ _ _ HW.out).mono ?_; rintro e w' ⟨rfl, ⟨nd, rfl⟩⟩)
      go_ret
      exact ⟨by rw [HH.out]; rfl, by repeat (first | exact Drawn0.refl _ | apply Drawn0.step)⟩
    · have HH := Aside0.mk (show wordAt l0 i = false by simp [wordAt, c2])
      have c1b : decide (0 ≤ i) = true := decide_eq_true c1
      have c2b : decide (i < (l0.length : Int)) = false := decide_eq_false c2
      clear hr0 c1 c2
      go_enter Try.func23, Try.ntmps23
      go_wp2
      go_ret
      exact ⟨by rw [HH.out]; rfl, by repeat (first | exact Drawn0.refl _ | apply Drawn0.step)⟩
  · have HH := Aside0.mk (show wordAt l0 i = false by simp [wordAt, c1])
    have c1b : decide (0 ≤ i) = false := decide_eq_false c1
    clear hr0 c1
    go_enter Try.func23, Try.ntmps23
    go_wp2
    go_ret
    exact ⟨by rw [HH.out]; rfl, by repeat (first | exact Drawn0.refl _ | apply Drawn0.step)⟩

/-- which pieces are free -/
def freeB (l : List Int) (s e : Int) : Bool := (decide (0 ≤ s) && (decide (s ≤ e) && decide (e ≤ (l.length : Int)))) && (!(s == e)) && (!(wordAt l (wrap64 (s - 1))) && !(wordAt l e))
def admit_Free.f (l0 : List Int) (a1_0 a1_1 : Int) : Option Bool := some (freeB l0 a1_0 a1_1)
theorem piece_some (l : List Int) (s e : Int) : admit_piece.f l s e = some (decide (0 ≤ s) && (decide (s ≤ e) && decide (e ≤ (l.length : Int)))) := by
  unfold admit_piece.f
  by_cases h1 : 0 ≤ s <;> by_cases h2 : s ≤ e <;> simp [h1, h2]

set_option maxHeartbeats 4000000 in
set_option maxRecDepth 100000 in
theorem admit_Free.calls (A0 : Option Addr) (c0 : Nat) (l0 : List Int) (a1_0 : Int) (a1_1 : Int) (r : Bool) (w : World) (hr0 : Kd.C (Kd.int .u8) w A0 l0.length l0) (hc0 : l0.length ≤ c0) (h : admit_Free.f l0 a1_0 a1_1 = some r) :
    Calls Try.prog 10 #[.slice A0 l0.length c0, .agg #[.int .i64 a1_0, .int .i64 a1_1]] w fun e w' => e = .returned (.bool r) ∧ Below w.heap.size w w' := by
  have hu26 := Try.underlying26
  obtain rfl := Option.some.inj h
  have hmf : ∀ (fn : Fn) (first cap : Array Value) (w : World), (Instr.makeFunc fn first cap).run Try.prog w = .ok (.func fn first cap) w := fun _ _ _ _ => rfl
  have HP := Aside0.mk (piece_some l0 a1_0 a1_1)
  have HR := Aside0.mk hr0
  have HC := Aside0.mk hc0
  obtain ⟨W, HWW⟩ : ∃ W, W = (w.alloc (.cells #[.slice A0 l0.length c0] 22)).alloc (.cells #[.int .i64 a1_0, .int .i64 a1_1] 26) := ⟨_, rfl⟩
  have g1 : W.cell? ⟨w.heap.size, 0, none⟩ = some (.slice A0 l0.length c0) := by
    rw [HWW, World.cell?_alloc_past _ _ _ (by simp), World.cell?_alloc_at _ _ _ _ rfl]; rfl
  have g2 : W.cell? ⟨w.heap.size + 1, 0, none⟩ = some (.int .i64 a1_0) := by
    rw [HWW, World.cell?_alloc_at _ _ _ _ (by simp)]; rfl
  have g3 : W.cell? ⟨w.heap.size + 1, 1, none⟩ = some (.int .i64 a1_1) := by
    rw [HWW, World.cell?_alloc_at _ _ _ _ (by simp)]; rfl
  have g4 : Kd.C (Kd.int .u8) W A0 l0.length l0 := by rw [HWW]; exact Kd.C_alloc (Kd.C_alloc hr0 _) _
  have g5 : Below w.heap.size w W := by rw [HWW]; exact below_alloc (below_alloc (Below.refl _ _) _) _
  have G1 := Aside0.mk g1
  have G2 := Aside0.mk g2
  have G3 := Aside0.mk g3
  have G4 := Aside0.mk g4
  have G5 := Aside0.mk g5
  have HW0 := Aside0.mk HWW
  clear h hr0 hc0 g1 g2 g3 g4 g5 HWW
  go_enter Try.func10, Try.ntmps10
  go_wp2_with fail
  rw [← HW0.out]
  refine (admit_piece.calls _ _ _ _ _ _ _ G4.out HC.out HP.out).mono ?_
  rintro e w1 ⟨rfl, hb⟩
  have G6 := Aside0.mk (below_step G5.out hb)
  have G7 := Aside0.mk (Kd.C_below G4.out hb)
  have k1 := pw_cell_below hb G1.out
  have k2 := pw_cell_below hb G2.out
  have k3 := pw_cell_below hb G3.out
  clear hb
  by_cases c1 : (decide (0 ≤ a1_0) && (decide (a1_0 ≤ a1_1) && decide (a1_1 ≤ (l0.length : Int)))) = true
  · by_cases c2 : a1_0 = a1_1
    · have HE := Aside0.mk (show freeB l0 a1_0 a1_1 = false by unfold freeB; rw [c2]; simp)
      have c2b : (a1_0 == a1_1) = true := by simpa using c2
      rw [c1]
      clear c1 c2
      go_wp2
      go_ret
      exact ⟨by rw [HE.out]; rfl, by repeat (first | exact G6.out | apply pw_below_drewN)⟩
    · have HE := Aside0.mk (show freeB l0 a1_0 a1_1 = (!(wordAt l0 (wrap64 (a1_0 - 1))) && !(wordAt l0 a1_1)) by
        unfold freeB; rw [c1]; simp [c2])
      have c2b : (a1_0 == a1_1) = false := by simpa using c2
      rw [c1]
      clear c1 c2
      generalize hwa : wordAt l0 (wrap64 (a1_0 - 1)) = t1 at *
      have HWA := Aside0.mk hwa
      clear hwa
      go_wp2_with fail
      refine (free1_calls _ _ _ _ _ _ k1 G7.out).mono ?_
      rintro e w2 ⟨rfl, ⟨nd, rfl⟩⟩
      rw [HWA.out]
      cases t1
      · go_wp2_with fail
        refine (free1_calls _ A0 c0 l0 w.heap.size (w1.drewN nd) k1 (Kd.C_drewN G7.out _)).mono ?_
        rintro e w2 ⟨rfl, ⟨nd, rfl⟩⟩
        go_wp2
        go_ret
        refine ⟨?_, by repeat (first | exact G6.out | apply pw_below_drewN)⟩
        rw [HE.out]; rfl
      · go_wp2
        go_ret
        refine ⟨?_, by repeat (first | exact G6.out | apply pw_below_drewN)⟩
        rw [HE.out]; rfl
  · have HE := Aside0.mk (show freeB l0 a1_0 a1_1 = false by unfold freeB; rw [Bool.eq_false_iff.mpr c1]; rfl)
    rw [Bool.eq_false_iff.mpr c1]
    clear c1
    go_wp2
    go_ret
    exact ⟨by rw [HE.out]; rfl, by repeat (first | exact G6.out | apply pw_below_drewN)⟩

-- NOT PRINTED: function 21 (admit_musts)

/-- whether a pair is a piece of a line -/
def pieceB (l : List Int) (s e : Int) : Bool := decide (0 ≤ s) && (decide (s ≤ e) && decide (e ≤ (l.length : Int)))
theorem piece_some' (l : List Int) (s e : Int) : admit_piece.f l s e = some (pieceB l s e) := piece_some l s e

set_option maxHeartbeats 4000000 in
set_option maxRecDepth 100000 in
theorem must1_calls (A0 : Option Addr) (c0 : Nat) (l0 : List Int) (a1_0 : Int) (a1_1 : Int) (B : Nat) (w : World) (hB : w.cell? ⟨B, 0, none⟩ = some (.slice A0 l0.length c0)) (hr0 : Kd.C (Kd.int .u8) w A0 l0.length l0) (hc0 : l0.length ≤ c0) :
    Calls Try.prog 31 #[.agg #[.int .i64 a1_0, .int .i64 a1_1], .pointer (some ⟨B, 0, none⟩)] w fun e w' => e = .returned (.bool (pieceB l0 a1_0 a1_1)) ∧ Below w.heap.size w w' := by
  have hu26 := Try.underlying26
  obtain ⟨W, HWW⟩ : ∃ W, W = w.alloc (.cells #[.int .i64 a1_0, .int .i64 a1_1] 26) := ⟨_, rfl⟩
  have g1 : (w.alloc (.cells #[.int .i64 a1_0, .int .i64 a1_1] 26)).cell? ⟨B, 0, none⟩ = some (.slice A0 l0.length c0) := pw_cell_below (below_alloc (Below.refl _ _) _) hB
  have G4 := Aside0.mk (Kd.C_alloc hr0 (.cells #[.int .i64 a1_0, .int .i64 a1_1] 26))
  have HC := Aside0.mk hc0
  clear HWW W hr0 hc0 hB
  go_enter Try.func31, Try.ntmps31
  go_wp2_with fail
  refine (admit_piece.calls _ _ _ _ _ _ _ G4.out HC.out (piece_some' _ _ _)).mono ?_
  rintro e w1 ⟨rfl, hb⟩
  have G6 := Aside0.mk (below_step (below_alloc (Below.refl _ _) _) hb)
  clear hb
  go_wp2
  go_ret
  exact ⟨rfl, G6.out⟩

set_option maxHeartbeats 4000000 in
set_option maxRecDepth 100000 in
theorem must2_calls (A0 : Option Addr) (c0 : Nat) (l0 : List Int) (a1_0 : Int) (a1_1 : Int) (B : Nat) (w : World) (hB : w.cell? ⟨B, 0, none⟩ = some (.slice A0 l0.length c0)) (hr0 : Kd.C (Kd.int .u8) w A0 l0.length l0) (hc0 : l0.length ≤ c0) :
    Calls Try.prog 32 #[.agg #[.int .i64 a1_0, .int .i64 a1_1], .pointer (some ⟨B, 0, none⟩)] w fun e w' => e = .returned (.bool (freeB l0 a1_0 a1_1)) ∧ Below w.heap.size w w' := by
  have hu26 := Try.underlying26
  have g1 : (w.alloc (.cells #[.int .i64 a1_0, .int .i64 a1_1] 26)).cell? ⟨B, 0, none⟩ = some (.slice A0 l0.length c0) := pw_cell_below (below_alloc (Below.refl _ _) _) hB
  have G4 := Aside0.mk (Kd.C_alloc hr0 (.cells #[.int .i64 a1_0, .int .i64 a1_1] 26))
  have HC := Aside0.mk hc0
  clear hr0 hc0 hB
  go_enter Try.func32, Try.ntmps32
  go_wp2_with fail
  refine (admit_Free.calls _ _ _ _ _ _ _ G4.out HC.out rfl).mono ?_
  rintro e w1 ⟨rfl, hb⟩
  have G6 := Aside0.mk (below_step (below_alloc (Below.refl _ _) _) hb)
  clear hb
  go_wp2
  go_ret
  exact ⟨rfl, G6.out⟩

def wholeB (l : List Int) (s e : Int) : Bool := (s == 0) && (e == (l.length : Int))
set_option maxHeartbeats 4000000 in
set_option maxRecDepth 100000 in
theorem must3_calls (A0 : Option Addr) (c0 : Nat) (l0 : List Int) (a1_0 : Int) (a1_1 : Int) (B : Nat) (w : World) (hB : w.cell? ⟨B, 0, none⟩ = some (.slice A0 l0.length c0)) :
    Calls Try.prog 33 #[.agg #[.int .i64 a1_0, .int .i64 a1_1], .pointer (some ⟨B, 0, none⟩)] w fun e w' => e = .returned (.bool (wholeB l0 a1_0 a1_1)) ∧ Below w.heap.size w w' := by
  have hu26 := Try.underlying26
  have g1 : (w.alloc (.cells #[.int .i64 a1_0, .int .i64 a1_1] 26)).cell? ⟨B, 0, none⟩ = some (.slice A0 l0.length c0) := pw_cell_below (below_alloc (Below.refl _ _) _) hB
  have HE : ∀ b, (a1_0 == 0) = b → wholeB l0 a1_0 a1_1 = (b && (a1_1 == (l0.length : Int))) := by rintro b rfl; rfl
  clear hB
  cases hb : (a1_0 == 0)
  all_goals
    have HE' := Aside0.mk (HE _ hb)
    clear HE
    go_enter Try.func33, Try.ntmps33
    go_wp2
    go_ret
    exact ⟨by rw [HE'.out]; rfl, below_alloc (Below.refl _ _) _⟩

def mustFns (x y : Bool) : List Nat := [31] ++ ((if x then [32] else []) ++ (if y then [33] else []))
def mustVal (B k : Nat) : Value := .func (.func k) #[] #[.pointer (some ⟨B, 0, none⟩)]
theorem info47 : (Try.prog.info? 47).map (fun i => (i.zero, i.size, i.bytes)) = some (some (.agg #[.nilFunc]), 1, 8) := by kernel_rfl

set_option maxHeartbeats 4000000 in
set_option maxRecDepth 100000 in
theorem musts_calls (A0 : Option Addr) (c0 : Nat) (l0 : List Int) (x y : Bool) (w : World) :
    Calls Try.prog 21 #[.slice A0 l0.length c0, .bool x, .bool y] w fun e w' => ∃ v : Value, e = .returned v ∧
      w'.ownsRow (w.heap.size + 1) 47 1 v (mustFns x y).length ((mustFns x y).map (mustVal w.heap.size)) ∧
      w'.cell? ⟨w.heap.size, 0, none⟩ = some (.slice A0 l0.length c0) ∧ Below w.heap.size w w' := by
  have hu47 := Try.underlying47
  have hmf : ∀ (fn : Fn) (first cap : Array Value) (w : World), (Instr.makeFunc fn first cap).run Try.prog w = .ok (.func fn first cap) w := fun _ _ _ _ => rfl
  have L1 : ((w.alloc (.cells #[.slice A0 l0.length c0] 22)).alloc (.cells #[mustVal w.heap.size 31] 47)).ownsRow (w.heap.size + 1) 47 1 (.slice (some ⟨w.heap.size + 1, 0, none⟩) 1 1) 1 [mustVal w.heap.size 31] := by
    have h := World.ownsRow_lit (base := w.heap.size + 1) (e := 47) (size := 1) (w.alloc (.cells #[.slice A0 l0.length c0] 22)) #[mustVal w.heap.size 31] 1 (by simp) (by decide) (by simp)
    simpa using h
  have L2 : ((w.alloc (.cells #[.slice A0 l0.length c0] 22)).alloc (.cells #[mustVal w.heap.size 31] 47)).cell? ⟨w.heap.size, 0, none⟩ = some (.slice A0 l0.length c0) := by
    rw [World.cell?_alloc_past _ _ _ (by simp), World.cell?_alloc_at _ _ _ _ rfl]; rfl
  have L3 : Below w.heap.size w ((w.alloc (.cells #[.slice A0 l0.length c0] 22)).alloc (.cells #[mustVal w.heap.size 31] 47)) := below_alloc (below_alloc (Below.refl _ _) _) _
  have L4 : Below (w.heap.size + 1) ((w.alloc (.cells #[.slice A0 l0.length c0] 22)).alloc (.cells #[mustVal w.heap.size 31] 47)) ((w.alloc (.cells #[.slice A0 l0.length c0] 22)).alloc (.cells #[mustVal w.heap.size 31] 47)) := Below.refl _ _
  have M1 := Aside0.mk L1
  have M2 := Aside0.mk L2
  have M3 := Aside0.mk L3
  have M4 := Aside0.mk L4
  clear L1 L2 L3 L4
  cases x <;> cases y
  · go_enter Try.func21, Try.ntmps21
    go_wp2
    go_ret
    exact ⟨_, rfl, M1.out, M2.out, M3.out⟩
  · go_enter Try.func21, Try.ntmps21
    go_wp2_with (at_builtin; refine print_append_cells (w.heap.size + 1) rfl (.tmp 18) (.tmp 21) 43 47 _ 1 8 rfl Try.underlying43 info47 rfl (by decide) (by decide) (.slice (some ⟨w.heap.size + 1, 0, none⟩) 1 1) 1 [mustVal w.heap.size 31] [mustVal w.heap.size 33] rfl (by first | rfl | (show Value.slice _ 1 1 = Value.slice _ 1 1; simp)) rfl (by simp [mustVal, Value.oneCell']) M1.out M4.out (by simp) (by decide) ?_; intro v1 w2 ho hb hg hat)
    go_ret
    exact ⟨_, rfl, ho, hg.cell M2.out (by simp [Value.ownBlock]), M3.out.trans (hb.mono (by simp))⟩
  · go_enter Try.func21, Try.ntmps21
    go_wp2_with (at_builtin; refine print_append_cells (w.heap.size + 1) rfl (.tmp 12) (.tmp 15) 43 47 _ 1 8 rfl Try.underlying43 info47 rfl (by decide) (by decide) (.slice (some ⟨w.heap.size + 1, 0, none⟩) 1 1) 1 [mustVal w.heap.size 31] [mustVal w.heap.size 32] rfl (by first | rfl | (show Value.slice _ 1 1 = Value.slice _ 1 1; simp)) rfl (by simp [mustVal, Value.oneCell']) M1.out M4.out (by simp) (by decide) ?_; intro v1 w2 ho hb hg hat)
    go_ret
    exact ⟨_, rfl, ho, hg.cell M2.out (by simp [Value.ownBlock]), M3.out.trans (hb.mono (by simp))⟩
  · go_enter Try.func21, Try.ntmps21
    go_wp2_with (first | (at_builtin; refine print_append_cells (w.heap.size + 1) rfl (.tmp 12) (.tmp 15) 43 47 _ 1 8 rfl Try.underlying43 info47 rfl (by decide) (by decide) (.slice (some ⟨w.heap.size + 1, 0, none⟩) 1 1) 1 [mustVal w.heap.size 31] [mustVal w.heap.size 32] rfl (by first | rfl | (show Value.slice _ 1 1 = Value.slice _ 1 1; simp)) rfl (by simp [mustVal, Value.oneCell']) M1.out M4.out (by simp) (by decide) ?_; intro v1 w2 ho hb hg hat; have N1 := Aside0.mk ho; have N2 := Aside0.mk hb; have N3 := Aside0.mk (hg.cell M2.out (by simp [Value.ownBlock])); clear M1 M4 ho hb hg hat) | (at_builtin; refine print_append_cells (w.heap.size + 1) rfl (.tmp 18) (.tmp 21) 43 47 _ 1 8 rfl Try.underlying43 info47 rfl (by decide) (by decide) v1 2 [mustVal w.heap.size 31, mustVal w.heap.size 32] [mustVal w.heap.size 33] rfl (by first | rfl | (show Value.slice _ 1 1 = Value.slice _ 1 1; simp)) rfl (by simp [mustVal, Value.oneCell']) N1.out N2.out (by have := N2.out.size; simp at this ⊢; omega) (by decide) ?_; intro v1 w2 ho hb hg hat))
    go_ret
    exact ⟨_, rfl, ho, hg.cell N3.out (fun he => by have := (N1.out.lt _ he.symm).1; simp at this; omega), M3.out.trans (hb.mono (by simp))⟩

def mustB (l : List Int) (s e : Int) (k : Nat) : Bool := if k = 31 then pieceB l s e else if k = 32 then freeB l s e else wholeB l s e
def mayB (l : List Int) (s e : Int) (x y : Bool) : Bool := (mustFns x y).all (mustB l s e)
def admit_May.f (l0 : List Int) (a1_0 a1_1 : Int) (a2 a3 : Bool) : Option Bool := some (mayB l0 a1_0 a1_1 a2 a3)
theorem must_calls (k : Nat) (hk : k = 31 ∨ k = 32 ∨ k = 33) (A0 : Option Addr) (c0 : Nat) (l0 : List Int) (a1_0 : Int) (a1_1 : Int) (B : Nat) (w : World) (hB : w.cell? ⟨B, 0, none⟩ = some (.slice A0 l0.length c0)) (hr0 : Kd.C (Kd.int .u8) w A0 l0.length l0) (hc0 : l0.length ≤ c0) :
    Calls Try.prog k #[.agg #[.int .i64 a1_0, .int .i64 a1_1], .pointer (some ⟨B, 0, none⟩)] w fun e w' => e = .returned (.bool (mustB l0 a1_0 a1_1 k)) ∧ Below w.heap.size w w' := by
  rcases hk with rfl | rfl | rfl
  · exact must1_calls A0 c0 l0 a1_0 a1_1 B w hB hr0 hc0
  · exact must2_calls A0 c0 l0 a1_0 a1_1 B w hB hr0 hc0
  · exact must3_calls A0 c0 l0 a1_0 a1_1 B w hB
theorem mustFns_mem (x y : Bool) (j : Nat) (h : j < (mustFns x y).length) : (mustFns x y).getD j 0 = 31 ∨ (mustFns x y).getD j 0 = 32 ∨ (mustFns x y).getD j 0 = 33 := by
  revert h
  cases x <;> cases y <;> simp [mustFns] <;> intro h
  · have : j = 0 := by omega
    subst this; simp
  · rcases (by omega : j = 0 ∨ j = 1) with rfl | rfl <;> simp
  · rcases (by omega : j = 0 ∨ j = 1) with rfl | rfl <;> simp
  · rcases (by omega : j = 0 ∨ j = 1 ∨ j = 2) with rfl | rfl | rfl <;> simp

set_option maxHeartbeats 4000000 in
set_option maxRecDepth 100000 in
theorem admit_May.calls (A0 : Option Addr) (c0 : Nat) (l0 : List Int) (a1_0 : Int) (a1_1 : Int) (a2 : Bool) (a3 : Bool) (r : Bool) (w : World) (hr0 : Kd.C (Kd.int .u8) w A0 l0.length l0) (hc0 : l0.length ≤ c0) (h : admit_May.f l0 a1_0 a1_1 a2 a3 = some r) :
    Calls Try.prog 9 #[.slice A0 l0.length c0, .agg #[.int .i64 a1_0, .int .i64 a1_1], .bool a2, .bool a3] w fun e w' => e = .returned (.bool r) ∧ Below w.heap.size w w' := by
  have hu26 := Try.underlying26
  have hu47 := Try.underlying47
  obtain rfl := Option.some.inj h
  have HR := Aside0.mk hr0
  have HC := Aside0.mk hc0
  clear h hr0 hc0
  go_enter Try.func9, Try.ntmps9
  go_wp2_with fail
  have hs : (w.alloc (.cells #[.int .i64 a1_0, .int .i64 a1_1] 26)).heap.size = w.heap.size + 1 := by simp
  refine (musts_calls A0 c0 l0 a2 a3 _).mono ?_
  rintro e w1 ⟨v, rfl, ho, hB, hb⟩
  have hpos : 0 < (mustFns a2 a3).length := by cases a2 <;> cases a3 <;> simp [mustFns]
  have hn3 : (mustFns a2 a3).length ≤ 3 := by cases a2 <;> cases a3 <;> simp [mustFns]
  obtain ⟨g, cap, rfl, hg1, hg2⟩ := ho.form hpos
  rw [hs] at ho hB
  have G0 := Aside0.mk (show ∀ j, j < (mustFns a2 a3).length → w1.cell? ⟨g, j, none⟩ = some (mustVal (w.heap.size + 1) ((mustFns a2 a3).getD j 0)) from fun j hj => by
    rw [ho.cellAt j (by omega), List.getElem?_map]
    simp [List.getD_eq_getElem?_getD, List.getElem?_eq_getElem hj])
  have G1 := Aside0.mk hB
  have G2 := Aside0.mk (Kd.C_below (Kd.C_alloc HR.out (.cells #[.int .i64 a1_0, .int .i64 a1_1] 26)) hb)
  have G3 := Aside0.mk (pw_cell_below hb (a := ⟨w.heap.size, 0, none⟩) (v := .int .i64 a1_0) (by rw [World.cell?_alloc_at _ _ _ _ rfl]; rfl))
  have G4 := Aside0.mk (pw_cell_below hb (a := ⟨w.heap.size, 1, none⟩) (v := .int .i64 a1_1) (by rw [World.cell?_alloc_at _ _ _ _ rfl]; rfl))
  have G5 := Aside0.mk (below_step (below_alloc (Below.refl _ _) _) hb)
  clear hb ho hB hs HR
  generalize hfs : mustFns a2 a3 = fs at *
  have HFS := Aside0.mk hfs
  clear hfs
  go_wp2
  go_loopw [16] (fun i wr => ∃ k : Nat, k ≤ fs.length ∧ i = .int .i64 k ∧ Aside0 ((fs.take k).all (mustB l0 a1_0 a1_1) = true) ∧ Aside0 (Below w1.heap.size w1 wr)) (fun i _ => fs.length - (intOf i).toNat)
  case atStart => exact ⟨0, Nat.zero_le _, rfl, ⟨by simp⟩, ⟨Below.refl _ _⟩⟩
  case round =>
    obtain ⟨k, hk, rfl, HA, HB⟩ := hrel
    by_cases hlt : k < fs.length
    · have k0 : wr.cell? ⟨g, k, none⟩ = some (.func (.func (fs.getD k 0)) #[] #[.pointer (some ⟨w.heap.size + 1, 0, none⟩)]) := pw_cell_below HB.out (G0.out k hlt)
      have k2 := pw_cell_below HB.out G3.out
      have k3 := pw_cell_below HB.out G4.out
      have g47 : (Try.prog.underlying 47) = some (TypeDesc.struct #[{ name := "be", type := 45, offset := 0, embedded := false, tag := "", pkgPath := "seine/admit", byteOffset := 0 }]) := Try.underlying47
      generalize hfk : fs.getD k 0 = f at k0
      have HF := Aside0.mk hfk
      clear hfk
      have hm := mustFns_mem a2 a3 k (by rw [HFS.out]; exact hlt)
      rw [HFS.out, HF.out] at hm
      have HS := Aside0.mk (show (fs.take (k + 1)).all (mustB l0 a1_0 a1_1) = mustB l0 a1_0 a1_1 f from by
        rw [List.take_succ_eq_append_getElem hlt, List.all_append, HA.out]
        have e1 : fs[k] = f := by have := HF.out; rwa [List.getD_eq_getElem?_getD, List.getElem?_eq_getElem hlt] at this
        simp [e1])
      have HN := Aside0.mk (show mustB l0 a1_0 a1_1 f = false → mayB l0 a1_0 a1_1 a2 a3 = false from fun hf => by
        unfold mayB
        rw [HFS.out, List.all_eq_false]
        have e1 : fs[k] = f := by have := HF.out; rwa [List.getD_eq_getElem?_getD, List.getElem?_eq_getElem hlt] at this
        exact ⟨f, e1 ▸ List.getElem_mem hlt, by simp [hf]⟩)
      clear HF
      have z1 : (wr.alloc (.cells #[.func (.func f) #[] #[.pointer (some ⟨w.heap.size + 1, 0, none⟩)]] 47)).cell? ⟨w.heap.size, 0, none⟩ = some (.int .i64 a1_0) := pw_cell_below (below_alloc (Below.refl _ _) _) k2
      have z2 : (wr.alloc (.cells #[.func (.func f) #[] #[.pointer (some ⟨w.heap.size + 1, 0, none⟩)]] 47)).cell? ⟨w.heap.size, 1, none⟩ = some (.int .i64 a1_1) := pw_cell_below (below_alloc (Below.refl _ _) _) k3
      have Z3 := Aside0.mk (show (wr.alloc (.cells #[.func (.func f) #[] #[.pointer (some ⟨w.heap.size + 1, 0, none⟩)]] 47)).cell? ⟨w.heap.size + 1, 0, none⟩ = some (.slice A0 l0.length c0) from pw_cell_below (below_alloc HB.out _) G1.out)
      have Z4 := Aside0.mk (show Kd.C (Kd.int .u8) (wr.alloc (.cells #[.func (.func f) #[] #[.pointer (some ⟨w.heap.size + 1, 0, none⟩)]] 47)) A0 l0.length l0 from Kd.C_below G2.out (below_alloc HB.out _))
      have Z5 := Aside0.mk (below_alloc HB.out (.cells #[.func (.func f) #[] #[.pointer (some ⟨w.heap.size + 1, 0, none⟩)]] 47))
      have hmf := Aside0.mk (must_calls f hm A0 c0 l0 a1_0 a1_1 (w.heap.size + 1) _ Z3.out Z4.out HC.out)
      clear k2 k3 G3 G4 Z3 Z4
      rcases hm with rfl | rfl | rfl
      all_goals
        go_wp2_with fail
        refine hmf.out.mono ?_
        rintro e w2 ⟨rfl, hb2⟩
        have Z6 := Aside0.mk (below_step Z5.out hb2)
        clear hb2 hmf z1 z2 k0
      all_goals
        generalize hq : mustB l0 a1_0 a1_1 _ = q at *
        clear hq
        cases q
        · go_wp2
          go_ret
          exact ⟨by rw [HN.out trivial]; rfl, G5.out.trans (Z6.out.mono G5.out.size)⟩
        · go_wp2
          go_roundw
          case rel => exact ⟨k + 1, by omega, by go_num, ⟨HS.out⟩, ⟨Z6.out⟩⟩
          case measure => simp [intOf]; omega
    · have hke : k = fs.length := by omega
      have HS := Aside0.mk (show mayB l0 a1_0 a1_1 a2 a3 = true from by
        unfold mayB
        rw [HFS.out]
        have := HA.out
        rwa [hke, List.take_length] at this)
      clear hke
      go_wp2
      go_ret
      exact ⟨by rw [HS.out]; rfl, G5.out.trans (HB.out.mono G5.out.size)⟩

/-- a row of bytes that a constant text was laid as -/
theorem const_reads (w : World) (xs : List Int) (e : TypeId) (fr : Nat × Nat) (hm : xs.length ≤ 9223372036854775807) :
    Kd.C (Kd.int .u8) (w.alloc (.cells (xs.map (Value.int .u8)).toArray e fr)) (some ⟨w.heap.size, 0, none⟩) xs.length xs := by
  refine Kd.C_of_reads (d := (0 : Int)) (h1 := fun _ => rfl) ⟨rfl, hm, fun _ => ⟨_, rfl, fun j hj => ?_⟩⟩
  rw [add_plain, World.cell?_alloc_mark]
  simp [List.getD_eq_getElem?_getD, List.getElem?_eq_getElem hj]
def awk : List Int := [97, 98, 32, 99, 100, 95]
def seinelaw22_awake.f : Option Bool := some true
set_option maxHeartbeats 8000000 in
set_option maxRecDepth 100000 in
theorem seinelaw22_awake.calls (r : Bool) (w : World) (h : seinelaw22_awake.f = some r) :
    Calls Try.prog 8 #[] w fun e w' => e = .returned (.bool r) ∧ Below w.heap.size w w' := by
  obtain rfl := Option.some.inj h
  have hu26 := Try.underlying26
  have kc := fun (w : World) (C : Array Value) (n c : Nat) => Lib.run_convert_bytes_const (P := Try.prog) w 22 5 C n c Try.underlying22 Try.underlying5
  have HC := Aside0.mk (const_reads w awk 5 (6, 7) (by decide))
  have HB := Aside0.mk (below_alloc (Below.refl w.heap.size w) (.cells (awk.map (Value.int .u8)).toArray 5 (6, 7)))
  clear h
  go_enter Try.func8, Try.ntmps8
  go_wp2_with fail
  refine (admit_Free.calls (some ⟨w.heap.size, 0, none⟩) 6 awk 0 2 true _ HC.out (by decide) (by decide +kernel)).mono ?_
  rintro e w1 ⟨rfl, hb⟩
  have C1 := Aside0.mk (Kd.C_below HC.out hb)
  have B1 := Aside0.mk (below_step HB.out hb)
  clear hb HC HB
  go_wp2_with fail
  refine (admit_Free.calls (some ⟨w.heap.size, 0, none⟩) 6 awk 3 5 false _ C1.out (by decide) (by decide +kernel)).mono ?_
  rintro e w2 ⟨rfl, hb⟩
  have C2 := Aside0.mk (Kd.C_below C1.out hb)
  have B2 := Aside0.mk (below_step B1.out hb)
  clear hb C1 B1
  go_wp2_with fail
  refine (admit_May.calls (some ⟨w.heap.size, 0, none⟩) 6 awk 3 5 false false true _ C2.out (by decide) (by decide +kernel)).mono ?_
  rintro e w3 ⟨rfl, hb⟩
  have C3 := Aside0.mk (Kd.C_below C2.out hb)
  have B3 := Aside0.mk (below_step B2.out hb)
  clear hb C2 B2
  go_wp2_with fail
  refine (admit_May.calls (some ⟨w.heap.size, 0, none⟩) 6 awk 0 2 false true false _ C3.out (by decide) (by decide +kernel)).mono ?_
  rintro e w4 ⟨rfl, hb⟩
  have C4 := Aside0.mk (Kd.C_below C3.out hb)
  have B4 := Aside0.mk (below_step B3.out hb)
  clear hb C3 B3
  go_wp2_with fail
  refine (admit_May.calls (some ⟨w.heap.size, 0, none⟩) 6 awk 0 6 true true true _ C4.out (by decide) (by decide +kernel)).mono ?_
  rintro e w5 ⟨rfl, hb⟩
  have B5 := Aside0.mk (below_step B4.out hb)
  clear hb C4 B4
  go_wp2
  go_ret
  exact ⟨rfl, B5.out⟩

set_option maxHeartbeats 8000000 in
set_option maxRecDepth 100000 in
theorem join_calls (Aa Ab Ac : Option Addr) (ca cb cc : Nat) (a b c : List Int) (side other : Int) (Ba Bb Bc : Nat) (w : World) (ha : w.cell? ⟨Ba, 0, none⟩ = some (.slice Aa a.length ca)) (hb : w.cell? ⟨Bb, 0, none⟩ = some (.slice Ab b.length cb)) (hc : w.cell? ⟨Bc, 0, none⟩ = some (.slice Ac c.length cc))
    (ra : Kd.C (Kd.int .u8) w Aa a.length a) (rb : Kd.C (Kd.int .u8) w Ab b.length b) (rc : Kd.C (Kd.int .u8) w Ac c.length c) (la : a.length ≤ 100) (lb : b.length ≤ 100) (lc : c.length ≤ 100) (xa : Ba < w.heap.size) (xb : Bb < w.heap.size) (xc : Bc < w.heap.size) :
    Calls Try.prog 11 #[.int .u8 side, .int .u8 other, .pointer (some ⟨Ba, 0, none⟩), .pointer (some ⟨Bb, 0, none⟩), .pointer (some ⟨Bc, 0, none⟩)] w fun e w' => ∃ v0_ : Value, e = .returned v0_ ∧ Kd.R (Kd.int .u8) 5 w' w.heap.size (fun _ => True) v0_ (a ++ [side] ++ b ++ [other] ++ c) ∧ Below w.heap.size w w' := by
  have RA := Aside0.mk ra
  have RB := Aside0.mk rb
  have RC := Aside0.mk rc
  clear ra rb rc
  have HB0 := Aside0.mk (Below.refl w.heap.size w)
  have HO0 := Aside0.mk (Kd.R_nil (Kd.int .u8) 5 w w.heap.size (fun _ => True))
  go_enter Try.func11, Try.ntmps11
  go_wp2_with first
    | (at_builtin; refine Kd.R_append_rows (Kd.int .u8) (w0 := w) w.heap.size rfl (.tmp 9) (.tmp 10) 22 5 (.int .u8 0) 1 rfl Try.underlying22 info5 rfl (by decide) (by decide) (.slice none 0 0) ([] : List Int) a Aa a.length ca (fun _ => True) (fun _ => False) rfl rfl HO0.out (RA.out) (fun _ _ h => h) (fun _ h => h.elim) (fun _ _ => trivial) HB0.out (HB0.out.size) (by simp; omega) ?_; intro v1 w1 hr1 hb1 hg1 hat1; obtain ⟨X1, hX1⟩ : ∃ X, ([] : List Int) ++ a = X := ⟨_, rfl⟩; rw [hX1] at hr1; have l1 : X1.length = a.length := (by rw [← hX1]; first | done | simp); obtain ⟨A1, c1, hv1⟩ := Kd.R_slice hr1; rw [l1] at hv1; subst hv1; have HL1 := Aside0.mk l1; have HX1 := Aside0.mk hX1; have HO1 := Aside0.mk hr1; have HB1 := Aside0.mk hb1; clear hr1 hb1 hg1 hat1 l1 hX1)
    | (at_builtin; refine Kd.R_append (Kd.int .u8) (w0 := w) w.heap.size rfl (.tmp 12) (.tmp 14) 22 5 (.int .u8 0) 1 rfl Try.underlying22 info5 rfl (by decide) (by decide) (.slice A1 a.length c1) X1 side [.int .u8 side] (fun _ => True) (fun _ => False) rfl rfl rfl (fun _ h => h.elim) (fun _ _ => trivial) HO1.out HB1.out (HB1.out.size) (by rw [HL1.out]; omega) ?_; intro v2 w2 hr2 hb2 hg2 hat2; obtain ⟨X2, hX2⟩ : ∃ X, X1 ++ [side] = X := ⟨_, rfl⟩; rw [hX2] at hr2; have l2 : X2.length = a.length + 1 := (by rw [← hX2]; first | done | simp [HL1.out]); obtain ⟨A2, c2, hv2⟩ := Kd.R_slice hr2; rw [l2] at hv2; subst hv2; have HL2 := Aside0.mk l2; have HX2 := Aside0.mk hX2; have HO2 := Aside0.mk hr2; have HB2 := Aside0.mk hb2; have k2 := (HB2.out.cell (p := ⟨Bb, 0, none⟩) xb).trans hb; clear hr2 hb2 hg2 hat2 l2 hX2)
    | (at_builtin; refine Kd.R_append_rows (Kd.int .u8) (w0 := w) w.heap.size rfl (.tmp 16) (.tmp 17) 22 5 (.int .u8 0) 1 rfl Try.underlying22 info5 rfl (by decide) (by decide) (.slice A2 (a.length + 1) c2) X2 b Ab b.length cb (fun _ => True) (fun _ => False) rfl rfl HO2.out (Kd.C_below RB.out HB2.out) (fun _ _ h => h) (fun _ h => h.elim) (fun _ _ => trivial) HB2.out (HB2.out.size) (by rw [HL2.out]; omega) ?_; intro v3 w3 hr3 hb3 hg3 hat3; obtain ⟨X3, hX3⟩ : ∃ X, X2 ++ b = X := ⟨_, rfl⟩; rw [hX3] at hr3; have l3 : X3.length = a.length + 1 + b.length := (by rw [← hX3]; first | done | simp [HL2.out]); obtain ⟨A3, c3, hv3⟩ := Kd.R_slice hr3; rw [l3] at hv3; subst hv3; have HL3 := Aside0.mk l3; have HX3 := Aside0.mk hX3; have HO3 := Aside0.mk hr3; have HB3 := Aside0.mk hb3; clear hr3 hb3 hg3 hat3 l3 hX3)
    | (at_builtin; refine Kd.R_append (Kd.int .u8) (w0 := w) w.heap.size rfl (.tmp 19) (.tmp 21) 22 5 (.int .u8 0) 1 rfl Try.underlying22 info5 rfl (by decide) (by decide) (.slice A3 (a.length + 1 + b.length) c3) X3 other [.int .u8 other] (fun _ => True) (fun _ => False) rfl rfl rfl (fun _ h => h.elim) (fun _ _ => trivial) HO3.out HB3.out (HB3.out.size) (by rw [HL3.out]; omega) ?_; intro v4 w4 hr4 hb4 hg4 hat4; obtain ⟨X4, hX4⟩ : ∃ X, X3 ++ [other] = X := ⟨_, rfl⟩; rw [hX4] at hr4; have l4 : X4.length = a.length + 1 + b.length + 1 := (by rw [← hX4]; first | done | simp [HL3.out]); obtain ⟨A4, c4, hv4⟩ := Kd.R_slice hr4; rw [l4] at hv4; subst hv4; have HL4 := Aside0.mk l4; have HX4 := Aside0.mk hX4; have HO4 := Aside0.mk hr4; have HB4 := Aside0.mk hb4; have k4 := (HB4.out.cell (p := ⟨Bc, 0, none⟩) xc).trans hc; clear hr4 hb4 hg4 hat4 l4 hX4)
    | (at_builtin; refine Kd.R_append_rows (Kd.int .u8) (w0 := w) w.heap.size rfl (.tmp 23) (.tmp 24) 22 5 (.int .u8 0) 1 rfl Try.underlying22 info5 rfl (by decide) (by decide) (.slice A4 (a.length + 1 + b.length + 1) c4) X4 c Ac c.length cc (fun _ => True) (fun _ => False) rfl rfl HO4.out (Kd.C_below RC.out HB4.out) (fun _ _ h => h) (fun _ h => h.elim) (fun _ _ => trivial) HB4.out (HB4.out.size) (by rw [HL4.out]; omega) ?_; intro v5 w5 hr5 hb5 hg5 hat5; obtain ⟨X5, hX5⟩ : ∃ X, X4 ++ c = X := ⟨_, rfl⟩; rw [hX5] at hr5; have l5 : X5.length = a.length + 1 + b.length + 1 + c.length := (by rw [← hX5]; first | done | simp [HL4.out]); obtain ⟨A5, c5, hv5⟩ := Kd.R_slice hr5; rw [l5] at hv5; subst hv5; have HL5 := Aside0.mk l5; have HX5 := Aside0.mk hX5; have HO5 := Aside0.mk hr5; have HB5 := Aside0.mk hb5; clear hr5 hb5 hg5 hat5 l5 hX5)
  go_ret
  have e : a ++ [side] ++ b ++ [other] ++ c = X5 := by rw [← HX5.out, ← HX4.out, ← HX3.out, ← HX2.out, ← HX1.out]; rfl
  rw [e]
  exact ⟨_, rfl, HO5.out, HB5.out⟩
theorem rd_at (p q : List Int) (x : Int) : rd (p ++ [x] ++ q) (p.length : Int) = x := by
  unfold rd
  rw [Int.toNat_natCast, List.getD_eq_getElem?_getD, List.append_assoc, List.getElem?_append_right (Nat.le_refl _)]
  simp
theorem free_join (a b c : List Int) (s o : Int) (la : a.length ≤ 100) (lb : b.length ≤ 100) (lc : c.length ≤ 100) (hb : b.length ≠ 0) :
    admit_Free.f (a ++ [s] ++ b ++ [o] ++ c) ((a.length : Int) + 1) ((a.length : Int) + 1 + (b.length : Int)) = some (!(isWord s) && !(isWord o)) := by
  unfold admit_Free.f freeB
  have hl : ((a ++ [s] ++ b ++ [o] ++ c).length : Int) = (a.length : Int) + 1 + (b.length : Int) + 1 + (c.length : Int) := by simp; omega
  have h1 : wordAt (a ++ [s] ++ b ++ [o] ++ c) (wrap64 ((a.length : Int) + 1 - 1)) = isWord s := by
    have e : wrap64 ((a.length : Int) + 1 - 1) = (a.length : Int) := by unfold wrap64; omega
    have e2 := rd_at a (b ++ [o] ++ c) s
    rw [show a ++ [s] ++ (b ++ [o] ++ c) = a ++ [s] ++ b ++ [o] ++ c by simp] at e2
    unfold wordAt
    rw [e, e2, hl, decide_eq_true (by omega), decide_eq_true (by omega)]
    rfl
  have h2 : wordAt (a ++ [s] ++ b ++ [o] ++ c) ((a.length : Int) + 1 + (b.length : Int)) = isWord o := by
    have e2 := rd_at (a ++ [s] ++ b) c o
    rw [show ((a ++ [s] ++ b).length : Int) = (a.length : Int) + 1 + (b.length : Int) by simp; omega] at e2
    unfold wordAt
    rw [e2, hl, decide_eq_true (by omega), decide_eq_true (by omega)]
    rfl
  rw [h1, h2, hl, decide_eq_true (by omega), decide_eq_true (by omega), decide_eq_true (by omega), show (((a.length : Int) + 1) == ((a.length : Int) + 1 + (b.length : Int))) = false from beq_eq_false_iff_ne.mpr (by omega)]
  simp
theorem free_all (b : List Int) (lb : b.length ≤ 100) (hb : b.length ≠ 0) : admit_Free.f b 0 (b.length : Int) = some true := by
  unfold admit_Free.f freeB
  have h1 : wordAt b (wrap64 (0 - 1)) = false := by
    unfold wordAt
    rw [show wrap64 (0 - 1) = -1 by unfold wrap64; omega, decide_eq_false (by omega)]
    rfl
  have h2 : wordAt b (b.length : Int) = false := by
    unfold wordAt
    rw [decide_eq_false (show ¬ (b.length : Int) < (b.length : Int) by omega)]
    simp
  rw [h1, h2, decide_eq_true (by omega), decide_eq_true (by omega), decide_eq_true (by omega), show ((0 : Int) == (b.length : Int)) = false from beq_eq_false_iff_ne.mpr (by omega)]
  rfl
theorem join_call (Aa Ab Ac : Option Addr) (ca cb cc : Nat) (a b c : List Int) (Ba Bb Bc : Nat) (wb : World) (ha : wb.cell? ⟨Ba, 0, none⟩ = some (.slice Aa a.length ca)) (hb : wb.cell? ⟨Bb, 0, none⟩ = some (.slice Ab b.length cb)) (hc : wb.cell? ⟨Bc, 0, none⟩ = some (.slice Ac c.length cc))
    (ra : Kd.C (Kd.int .u8) wb Aa a.length a) (rb : Kd.C (Kd.int .u8) wb Ab b.length b) (rc : Kd.C (Kd.int .u8) wb Ac c.length c) (la : a.length ≤ 100) (lb : b.length ≤ 100) (lc : c.length ≤ 100) (hne : b.length ≠ 0) (xa : Ba < wb.heap.size) (xb : Bb < wb.heap.size) (xc : Bc < wb.heap.size)
    (W : World) (hB : Below wb.heap.size wb W) (side other : Int) (lit : Bool) (hlit : (!(isWord side) && !(isWord other)) = lit) :
    Calls Try.prog 11 #[.int .u8 side, .int .u8 other, .pointer (some ⟨Ba, 0, none⟩), .pointer (some ⟨Bb, 0, none⟩), .pointer (some ⟨Bc, 0, none⟩)] W fun e w' => ∃ (L : List Int) (A : Option Addr) (c' : Nat), e = .returned (.slice A L.length c') ∧ Kd.C (Kd.int .u8) w' A L.length L ∧ L.length ≤ c' ∧ admit_Free.f L ((a.length : Int) + 1) ((a.length : Int) + 1 + (b.length : Int)) = some lit ∧ Below W.heap.size W w' := by
  refine (join_calls Aa Ab Ac ca cb cc a b c side other Ba Bb Bc W ((hB.cell (p := ⟨Ba, 0, none⟩) xa).trans ha) ((hB.cell (p := ⟨Bb, 0, none⟩) xb).trans hb) ((hB.cell (p := ⟨Bc, 0, none⟩) xc).trans hc) (Kd.C_below ra hB) (Kd.C_below rb hB) (Kd.C_below rc hB) la lb lc (Nat.lt_of_lt_of_le xa hB.size) (Nat.lt_of_lt_of_le xb hB.size) (Nat.lt_of_lt_of_le xc hB.size)).mono ?_
  rintro e w' ⟨v, rfl, hr, hb'⟩
  obtain ⟨A, c', rfl, hl, hC⟩ := Kd.R_reads hr
  exact ⟨_, A, c', rfl, hC, hl, by rw [free_join a b c side other la lb lc hne, hlit], hb'⟩
section
set_option maxHeartbeats 16000000 in
set_option maxRecDepth 100000 in
theorem law_sides (Aa Ab Ac : Option Addr) (ca cb cc : Nat) (a b c : List Int) (w : World) (ra : Kd.C (Kd.int .u8) w Aa a.length a) (hca : a.length ≤ ca) (rb : Kd.C (Kd.int .u8) w Ab b.length b) (hcb : b.length ≤ cb) (rc : Kd.C (Kd.int .u8) w Ac c.length c) (hcc : c.length ≤ cc)
    (la : (a.length : Int) ≤ 100) (lb : (b.length : Int) ≤ 100) (lc : (c.length : Int) ≤ 100) (hne : ¬ (b.length : Int) = 0) :
    Calls Try.prog 4 #[.slice Aa a.length ca, .slice Ab b.length cb, .slice Ac c.length cc] w fun e w' => e = .returned (.bool true) ∧ Below w.heap.size w w' := by
  have d1 : decide ((a.length : Int) > 100) = false := decide_eq_false (by omega)
  have d2 : decide ((b.length : Int) > 100) = false := decide_eq_false (by omega)
  have d3 : decide ((c.length : Int) > 100) = false := decide_eq_false (by omega)
  have d4 : ((b.length : Int) == 0) = false := beq_eq_false_iff_ne.mpr hne
  have RA := Aside0.mk ra
  have RB := Aside0.mk rb
  have RC := Aside0.mk rc
  clear ra rb rc
  have e0 := blk_alloc (blk_alloc (blk_new w (.cells #[.slice Aa a.length ca] 22)) (.cells #[.slice Ab b.length cb] 22)) (.cells #[.slice Ac c.length cc] 22)
  have e1 := blk_alloc (blk_new (w.alloc (.cells #[.slice Aa a.length ca] 22)) (.cells #[.slice Ab b.length cb] 22)) (.cells #[.slice Ac c.length cc] 22)
  have e2 := blk_new ((w.alloc (.cells #[.slice Aa a.length ca] 22)).alloc (.cells #[.slice Ab b.length cb] 22)) (.cells #[.slice Ac c.length cc] 22)
  rw [World.size_alloc] at e1
  rw [World.size_alloc, World.size_alloc] at e2
  go_enter Try.func4, Try.ntmps4
  go_wp2_with fail
  refine (seinelaw22_awake.calls true _ rfl).mono ?_
  rintro e w1 ⟨rfl, hb1⟩
  have f0 := blk_below e0 hb1
  have f1 := blk_below e1 hb1
  have f2 := blk_below e2 hb1
  have hB1 : Below w.heap.size w w1 := below_step (below_alloc (below_alloc (below_alloc (Below.refl _ w) _) _) _) hb1
  clear e0 e1 e2 hb1
  have k0 : w1.cell? ⟨w.heap.size, 0, none⟩ = some (.slice Aa a.length ca) := (blk_cell f0 0).trans rfl
  have k1 : w1.cell? ⟨w.heap.size + 1, 0, none⟩ = some (.slice Ab b.length cb) := (blk_cell f1 0).trans rfl
  have k2 : w1.cell? ⟨w.heap.size + 1 + 1, 0, none⟩ = some (.slice Ac c.length cc) := (blk_cell f2 0).trans rfl
  go_wp2
  have hP := blk_new w1 (.cells #[.int .i64 ((a.length : Int) + 1), .int .i64 ((a.length : Int) + 1 + (b.length : Int))] 26)
  have hBP : Below w1.heap.size w1 (w1.alloc (.cells #[.int .i64 ((a.length : Int) + 1), .int .i64 ((a.length : Int) + 1 + (b.length : Int))] 26)) := below_alloc (Below.refl _ w1) _
  have lt0 := blk_lt f0
  have lt1 := blk_lt f1
  have lt2 := blk_lt f2
  generalize w1.alloc (.cells #[.int .i64 ((a.length : Int) + 1), .int .i64 ((a.length : Int) + 1 + (b.length : Int))] 26) = wb at hP hBP ⊢
  have ltP := blk_lt hP
  have ltb : w.heap.size + 1 < wb.heap.size := Nat.lt_of_lt_of_le lt1 hBP.size
  have q0 : wb.cell? ⟨w1.heap.size, 0, none⟩ = some (.int .i64 ((a.length : Int) + 1)) := (blk_cell hP 0).trans rfl
  have q1 : wb.cell? ⟨w1.heap.size, 1, none⟩ = some (.int .i64 ((a.length : Int) + 1 + (b.length : Int))) := (blk_cell hP 1).trans rfl
  have ka := (hBP.cell (p := ⟨w.heap.size, 0, none⟩) lt0).trans k0
  have kb := (hBP.cell (p := ⟨w.heap.size + 1, 0, none⟩) lt1).trans k1
  have kc := (hBP.cell (p := ⟨w.heap.size + 1 + 1, 0, none⟩) lt2).trans k2
  have HBW : Below w.heap.size w wb := below_step hB1 hBP
  have RBW := Kd.C_below RB.out HBW
  have J := Aside0.mk (join_call Aa Ab Ac ca cb cc a b c w.heap.size (w.heap.size + 1) (w.heap.size + 1 + 1) wb ka kb kc (Kd.C_below RA.out HBW) RBW (Kd.C_below RC.out HBW) (by omega) (by omega) (by omega) (by omega) (Nat.lt_of_lt_of_le lt0 hBP.size) ltb (Nat.lt_of_lt_of_le lt2 hBP.size))
  have FA := Aside0.mk (free_all b (by omega) (by omega))
  have RBB := Aside0.mk RBW
  clear k0 k1 k2 f0 f1 f2 hP RBW
  have HB : Below wb.heap.size wb wb := Below.refl _ wb
  have hw1 : (!(isWord 32) && !(isWord 45)) = true := by decide +kernel
  have hw2 : (!(isWord 120) && !(isWord 32)) = false := by decide +kernel
  have hw3 : (!(isWord 32) && !(isWord 95)) = false := by decide +kernel
  have hw4 : (!(isWord 48) && !(isWord 90)) = false := by decide +kernel
  have p0 := q0
  have p1 := q1
  have pb := kb
  go_region_held3 (fun w' => w'.cell? ⟨w1.heap.size, 0, none⟩ = some (.int .i64 ((a.length : Int) + 1)) ∧ w'.cell? ⟨w1.heap.size, 1, none⟩ = some (.int .i64 ((a.length : Int) + 1 + (b.length : Int))) ∧ w'.cell? ⟨w.heap.size + 1, 0, none⟩ = some (.slice Ab b.length cb))
      (first | exact ⟨p0, p1, pb⟩ | go_keep)
      ((first
        | (go_at_call 11; with_reducible refine (J.out _ (by first | exact HB | exact HB.drew) 32 45 true hw1).mono ?_; rintro e wj ⟨L, A, c', rfl, hC, hl, hf, hb'⟩; have HB' : Below wb.heap.size wb wj := (by first | exact below_step HB hb' | exact below_step HB.drew hb'); clear HB; have HB := HB'; clear HB'; have p0 := (HB.cell (p := ⟨w1.heap.size, 0, none⟩) ltP).trans q0; have p1 := (HB.cell (p := ⟨w1.heap.size, 1, none⟩) ltP).trans q1; have pb := (HB.cell (p := ⟨w.heap.size + 1, 0, none⟩) ltb).trans kb; clear hb')
        | (go_at_call 11; with_reducible refine (J.out _ HB 120 32 false hw2).mono ?_; rintro e wj ⟨L, A, c', rfl, hC, hl, hf, hb'⟩; have HB' : Below wb.heap.size wb wj := (by first | exact below_step HB hb' | exact below_step HB.drew hb'); clear HB; have HB := HB'; clear HB'; have p0 := (HB.cell (p := ⟨w1.heap.size, 0, none⟩) ltP).trans q0; have p1 := (HB.cell (p := ⟨w1.heap.size, 1, none⟩) ltP).trans q1; have pb := (HB.cell (p := ⟨w.heap.size + 1, 0, none⟩) ltb).trans kb; clear hb')
        | (go_at_call 11; with_reducible refine (J.out _ HB 32 95 false hw3).mono ?_; rintro e wj ⟨L, A, c', rfl, hC, hl, hf, hb'⟩; have HB' : Below wb.heap.size wb wj := (by first | exact below_step HB hb' | exact below_step HB.drew hb'); clear HB; have HB := HB'; clear HB'; have p0 := (HB.cell (p := ⟨w1.heap.size, 0, none⟩) ltP).trans q0; have p1 := (HB.cell (p := ⟨w1.heap.size, 1, none⟩) ltP).trans q1; have pb := (HB.cell (p := ⟨w.heap.size + 1, 0, none⟩) ltb).trans kb; clear hb')
        | (go_at_call 11; with_reducible refine (J.out _ HB 48 90 false hw4).mono ?_; rintro e wj ⟨L, A, c', rfl, hC, hl, hf, hb'⟩; have HB' : Below wb.heap.size wb wj := (by first | exact below_step HB hb' | exact below_step HB.drew hb'); clear HB; have HB := HB'; clear HB'; have p0 := (HB.cell (p := ⟨w1.heap.size, 0, none⟩) ltP).trans q0; have p1 := (HB.cell (p := ⟨w1.heap.size, 1, none⟩) ltP).trans q1; have pb := (HB.cell (p := ⟨w.heap.size + 1, 0, none⟩) ltb).trans kb; clear hb')
        | (go_at_call 10; with_reducible refine (admit_Free.calls A c' L _ _ _ _ hC hl hf).mono ?_; rintro e wf ⟨rfl, hb'⟩; clear hC hl hf; have HB' : Below wb.heap.size wb wf := (by first | exact below_step HB hb' | exact below_step HB.drew hb'); clear HB; have HB := HB'; clear HB'; have p0 := (HB.cell (p := ⟨w1.heap.size, 0, none⟩) ltP).trans q0; have p1 := (HB.cell (p := ⟨w1.heap.size, 1, none⟩) ltP).trans q1; have pb := (HB.cell (p := ⟨w.heap.size + 1, 0, none⟩) ltb).trans kb; clear hb')
        | (go_at_call 10; with_reducible refine (admit_Free.calls Ab cb b 0 _ true _ (Kd.C_below RBB.out HB) hcb FA.out).mono ?_; rintro e wf ⟨rfl, hb'⟩; have HB' : Below wb.heap.size wb wf := (by first | exact below_step HB hb' | exact below_step HB.drew hb'); clear HB; have HB := HB'; clear HB'; have p0 := (HB.cell (p := ⟨w1.heap.size, 0, none⟩) ltP).trans q0; have p1 := (HB.cell (p := ⟨w1.heap.size, 1, none⟩) ltP).trans q1; have pb := (HB.cell (p := ⟨w.heap.size + 1, 0, none⟩) ltb).trans kb; clear hb')))
  go_wp2
  go_ret
  exact ⟨rfl, below_step HBW HB⟩
end
set_option maxHeartbeats 8000000 in
set_option maxRecDepth 100000 in
theorem law_skip (Aa Ab Ac : Option Addr) (na nb nc ca cb cc : Nat) (w : World) (h : (na : Int) > 100 ∨ ¬ (na : Int) > 100 ∧ ((nb : Int) > 100 ∨ ¬ (nb : Int) > 100 ∧ ((nc : Int) > 100 ∨ ¬ (nc : Int) > 100 ∧ (nb : Int) = 0))) :
    Calls Try.prog 4 #[.slice Aa na ca, .slice Ab nb cb, .slice Ac nc cc] w fun e w' => e = .returned (.bool true) ∧ Below w.heap.size w w' := by
  have HB0 := Aside0.mk (below_alloc (below_alloc (below_alloc (Below.refl w.heap.size w) (.cells #[.slice Aa na ca] 22)) (.cells #[.slice Ab nb cb] 22)) (.cells #[.slice Ac nc cc] 22))
  have e0 := blk_alloc (blk_alloc (blk_new w (.cells #[.slice Aa na ca] 22)) (.cells #[.slice Ab nb cb] 22)) (.cells #[.slice Ac nc cc] 22)
  have e1 := blk_alloc (blk_new (w.alloc (.cells #[.slice Aa na ca] 22)) (.cells #[.slice Ab nb cb] 22)) (.cells #[.slice Ac nc cc] 22)
  have e2 := blk_new ((w.alloc (.cells #[.slice Aa na ca] 22)).alloc (.cells #[.slice Ab nb cb] 22)) (.cells #[.slice Ac nc cc] 22)
  rw [World.size_alloc] at e1
  rw [World.size_alloc, World.size_alloc] at e2
  rcases h with h | ⟨h, h2 | ⟨h2, h3 | ⟨h3, h4⟩⟩⟩
  · have d1 : decide ((na : Int) > 100) = true := decide_eq_true h
    go_enter Try.func4, Try.ntmps4
    go_wp2_with fail
    refine (seinelaw22_awake.calls true _ rfl).mono ?_
    rintro e w1 ⟨rfl, hb1⟩
    have k0 : w1.cell? ⟨w.heap.size, 0, none⟩ = some (.slice Aa na ca) := (blk_cell (blk_below e0 hb1) 0).trans rfl
    have k1 : w1.cell? ⟨w.heap.size + 1, 0, none⟩ = some (.slice Ab nb cb) := (blk_cell (blk_below e1 hb1) 0).trans rfl
    have k2 : w1.cell? ⟨w.heap.size + 1 + 1, 0, none⟩ = some (.slice Ac nc cc) := (blk_cell (blk_below e2 hb1) 0).trans rfl
    have HB := below_step HB0.out hb1
    clear hb1 e0 e1 e2
    go_wp2
    go_ret
    exact ⟨rfl, HB⟩
  · have d1 : decide ((na : Int) > 100) = false := decide_eq_false h
    have d2 : decide ((nb : Int) > 100) = true := decide_eq_true h2
    go_enter Try.func4, Try.ntmps4
    go_wp2_with fail
    refine (seinelaw22_awake.calls true _ rfl).mono ?_
    rintro e w1 ⟨rfl, hb1⟩
    have k0 : w1.cell? ⟨w.heap.size, 0, none⟩ = some (.slice Aa na ca) := (blk_cell (blk_below e0 hb1) 0).trans rfl
    have k1 : w1.cell? ⟨w.heap.size + 1, 0, none⟩ = some (.slice Ab nb cb) := (blk_cell (blk_below e1 hb1) 0).trans rfl
    have k2 : w1.cell? ⟨w.heap.size + 1 + 1, 0, none⟩ = some (.slice Ac nc cc) := (blk_cell (blk_below e2 hb1) 0).trans rfl
    have HB := below_step HB0.out hb1
    clear hb1 e0 e1 e2
    go_wp2
    go_ret
    exact ⟨rfl, HB⟩
  · have d1 : decide ((na : Int) > 100) = false := decide_eq_false h
    have d2 : decide ((nb : Int) > 100) = false := decide_eq_false h2
    have d3 : decide ((nc : Int) > 100) = true := decide_eq_true h3
    go_enter Try.func4, Try.ntmps4
    go_wp2_with fail
    refine (seinelaw22_awake.calls true _ rfl).mono ?_
    rintro e w1 ⟨rfl, hb1⟩
    have k0 : w1.cell? ⟨w.heap.size, 0, none⟩ = some (.slice Aa na ca) := (blk_cell (blk_below e0 hb1) 0).trans rfl
    have k1 : w1.cell? ⟨w.heap.size + 1, 0, none⟩ = some (.slice Ab nb cb) := (blk_cell (blk_below e1 hb1) 0).trans rfl
    have k2 : w1.cell? ⟨w.heap.size + 1 + 1, 0, none⟩ = some (.slice Ac nc cc) := (blk_cell (blk_below e2 hb1) 0).trans rfl
    have HB := below_step HB0.out hb1
    clear hb1 e0 e1 e2
    go_wp2
    go_ret
    exact ⟨rfl, HB⟩
  · have d1 : decide ((na : Int) > 100) = false := decide_eq_false h
    have d2 : decide ((nb : Int) > 100) = false := decide_eq_false h2
    have d3 : decide ((nc : Int) > 100) = false := decide_eq_false h3
    have d4 : ((nb : Int) == 0) = true := beq_iff_eq.mpr h4
    go_enter Try.func4, Try.ntmps4
    go_wp2_with fail
    refine (seinelaw22_awake.calls true _ rfl).mono ?_
    rintro e w1 ⟨rfl, hb1⟩
    have k0 : w1.cell? ⟨w.heap.size, 0, none⟩ = some (.slice Aa na ca) := (blk_cell (blk_below e0 hb1) 0).trans rfl
    have k1 : w1.cell? ⟨w.heap.size + 1, 0, none⟩ = some (.slice Ab nb cb) := (blk_cell (blk_below e1 hb1) 0).trans rfl
    have k2 : w1.cell? ⟨w.heap.size + 1 + 1, 0, none⟩ = some (.slice Ac nc cc) := (blk_cell (blk_below e2 hb1) 0).trans rfl
    have HB := below_step HB0.out hb1
    clear hb1 e0 e1 e2
    go_wp2
    go_ret
    exact ⟨rfl, HB⟩
def seinelaw22_AdmitSides.f (l0 : List Int) (l1 : List Int) (l2 : List Int) : Option Bool := some true
theorem seinelaw22_AdmitSides.calls (A0 : Option Addr) (c0 : Nat) (l0 : List Int) (A1 : Option Addr) (c1 : Nat) (l1 : List Int) (A2 : Option Addr) (c2 : Nat) (l2 : List Int) (r : Bool) (w : World) (hr0 : Kd.C (Kd.int .u8) w A0 l0.length l0) (hc0 : l0.length ≤ c0) (hr1 : Kd.C (Kd.int .u8) w A1 l1.length l1) (hc1 : l1.length ≤ c1) (hr2 : Kd.C (Kd.int .u8) w A2 l2.length l2) (hc2 : l2.length ≤ c2) (h : seinelaw22_AdmitSides.f l0 l1 l2 = some r) :
    Calls Try.prog 4 #[.slice A0 l0.length c0, .slice A1 l1.length c1, .slice A2 l2.length c2] w fun e w' => e = .returned (.bool r) ∧ Below w.heap.size w w' := by
  obtain rfl := Option.some.inj h
  by_cases h1 : (l0.length : Int) > 100
  · exact law_skip _ _ _ _ _ _ _ _ _ w (Or.inl h1)
  by_cases h2 : (l1.length : Int) > 100
  · exact law_skip _ _ _ _ _ _ _ _ _ w (Or.inr ⟨h1, Or.inl h2⟩)
  by_cases h3 : (l2.length : Int) > 100
  · exact law_skip _ _ _ _ _ _ _ _ _ w (Or.inr ⟨h1, Or.inr ⟨h2, Or.inl h3⟩⟩)
  by_cases h4 : (l1.length : Int) = 0
  · exact law_skip _ _ _ _ _ _ _ _ _ w (Or.inr ⟨h1, Or.inr ⟨h2, Or.inr ⟨h3, h4⟩⟩⟩)
  exact law_sides A0 A1 A2 c0 c1 c2 l0 l1 l2 w hr0 hc0 hr1 hc1 hr2 hc2 (by omega) (by omega) (by omega) h4

end Go.Proofs.Ytfcolpemkbpgnaa.PAdmitSides
