/- Functions of the translation and what they come to: laid by a program of this session (xprint.py) beside contracts proved by hand. No condition. -/
import Derived.Test.YtfcolpemkbpgnaaPAdmitFoldx0
import Derived.Test.YtfcolpemkbpgnaaPAdmitFoldx1
namespace Go.Proofs.Ytfcolpemkbpgnaa.PAdmitFold
open Go.RowKit Go.Proofs.YtfcolpemkbpgnaaW.PrintWords Go.Proofs.YtfcolpemkbpgnaaW.PrintLast Go.Proofs.YtfcolpemkbpgnaaW.PrintMore
attribute [local go_sem] max2_int min2_int max_two min_two max_three min_three max_four min_four   -- for this text's walks alone
set_option linter.unusedVariables false
set_option linter.unusedSimpArgs false

attribute [local go_sem high] eqA26
/-! ### admit_piece: function 22 -/
def admit_piece.f (l0 : List Int) (a1_0 : Int) (a1_1 : Int) : Option (Bool) := if a1_0 ≥ 0 then (if a1_0 ≤ a1_1 then (some (decide (a1_1 ≤ (l0.length : Int)))) else (some false)) else (some false)
set_option maxHeartbeats 8000000 in
set_option maxRecDepth 100000 in
theorem admit_piece.calls (A0 : Option Addr) (c0 : Nat) (l0 : List Int) (a1_0 : Int) (a1_1 : Int) (r : Bool) (w : World) (hr0 : Kd.C (Kd.int .u8) w A0 l0.length l0) (hc0 : l0.length ≤ c0) (h : admit_piece.f l0 a1_0 a1_1 = some r) :
    Calls Try.prog 22 #[.slice A0 l0.length c0, .agg #[.int .i64 a1_0, .int .i64 a1_1]] w fun e w' => e = .returned (.bool r) ∧ Below w.heap.size w w' := by
  have hu26 := Try.underlying26
  have HR0 := Aside0.mk hr0
  have HC0 := Aside0.mk hc0
  clear hr0 hc0
  have HB := Aside0.mk (Below.refl w.heap.size w)
  have H : (if a1_0 ≥ 0 then (if a1_0 ≤ a1_1 then (some (decide (a1_1 ≤ (l0.length : Int)))) else (some false)) else (some false)) = some r := h
  clear h
  by_cases c3 : a1_0 ≥ 0
  · rw [if_pos c3] at H
    have c3b0 : decide (0 ≤ a1_0) = true := decide_eq_true c3
    clear c3
    by_cases c4 : a1_0 ≤ a1_1
    · rw [if_pos c4] at H
      have c4b0 : decide (a1_0 ≤ a1_1) = true := decide_eq_true c4
      clear c4
      obtain rfl := Option.some.inj H
      go_enter Try.func22, Try.ntmps22
      go_wp2_with (first | ((with_reducible refine gate_dst (N := 3) rfl ?_); (try (refine gate_guard (by rfl) ?_; dsimp only)); refine box_event ?hg (N := 3) ?hd (cs := #[.int .i64 a1_0, .int .i64 a1_1]) (t := 26) ?hr ?_; (case hd => rfl); (case hg => rfl); (case hr => first | (go_simp; done) | (go_simp; rfl)); intro gb101 hg w5 hbox hb; have n0_ := Aside0.mk (below_step (by repeat (first | (with_reducible first | exact HB.out | apply below_alloc | apply pw_below_drewN | apply below_drew1) | exact HB.out)) hb); have n1_ := Aside0.mk (hbox); have n2_ := Aside0.mk ((by rw [hg]; exact (below_size (by repeat (first | (with_reducible first | exact HB.out | apply below_alloc | apply pw_below_drewN | apply below_drew1) | exact HB.out))) : w.heap.size ≤ gb101)); have n3_ := Aside0.mk ((by rw [hg]; exact (below_size (by repeat (first | (with_reducible first | exact HB.out | apply below_alloc | apply pw_below_drewN | apply below_drew1) | exact HB.out))) : w.heap.size ≤ gb101)); clear HB; have HB := n0_; have BK101 := n1_; have GW101 := n2_; have GE101 := n3_; clear n0_ n1_ n2_ n3_; clear hb hbox hg; have hcz6_0 : w5.cell? ⟨gb101, 0, none⟩ = some (.int .i64 a1_0) := (blk_cell BK101.out 0).trans rfl; have hcz6_1 : w5.cell? ⟨gb101, 1, none⟩ = some (.int .i64 a1_1) := (blk_cell BK101.out 1).trans rfl; have hfz6_0 := blk_frozen BK101.out 0; have hfz6_1 := blk_frozen BK101.out 1))
      go_ret
      exact ⟨by first | rfl | (simp [errW_none, errW_some] <;> rfl) | (simp [*, errW_none, errW_some] <;> rfl), by repeat (first | (with_reducible first | exact HB.out | apply below_alloc | apply pw_below_drewN | apply below_drew1 | refine below_set ?_ GE101.out) | exact HB.out)⟩
    · rw [if_neg c4] at H
      have c4b0 : decide (a1_0 ≤ a1_1) = false := decide_eq_false c4
      clear c4
      obtain rfl := Option.some.inj H
      go_enter Try.func22, Try.ntmps22
      go_wp2_with (first | ((with_reducible refine gate_dst (N := 3) rfl ?_); (try (refine gate_guard (by rfl) ?_; dsimp only)); refine box_event ?hg (N := 3) ?hd (cs := #[.int .i64 a1_0, .int .i64 a1_1]) (t := 26) ?hr ?_; (case hd => rfl); (case hg => rfl); (case hr => first | (go_simp; done) | (go_simp; rfl)); intro gb101 hg w7 hbox hb; have n0_ := Aside0.mk (below_step (by repeat (first | (with_reducible first | exact HB.out | apply below_alloc | apply pw_below_drewN | apply below_drew1) | exact HB.out)) hb); have n1_ := Aside0.mk (hbox); have n2_ := Aside0.mk ((by rw [hg]; exact (below_size (by repeat (first | (with_reducible first | exact HB.out | apply below_alloc | apply pw_below_drewN | apply below_drew1) | exact HB.out))) : w.heap.size ≤ gb101)); have n3_ := Aside0.mk ((by rw [hg]; exact (below_size (by repeat (first | (with_reducible first | exact HB.out | apply below_alloc | apply pw_below_drewN | apply below_drew1) | exact HB.out))) : w.heap.size ≤ gb101)); clear HB; have HB := n0_; have BK101 := n1_; have GW101 := n2_; have GE101 := n3_; clear n0_ n1_ n2_ n3_; clear hb hbox hg; have hcz8_0 : w7.cell? ⟨gb101, 0, none⟩ = some (.int .i64 a1_0) := (blk_cell BK101.out 0).trans rfl; have hcz8_1 : w7.cell? ⟨gb101, 1, none⟩ = some (.int .i64 a1_1) := (blk_cell BK101.out 1).trans rfl; have hfz8_0 := blk_frozen BK101.out 0; have hfz8_1 := blk_frozen BK101.out 1))
      go_ret
      exact ⟨by first | rfl | (simp [errW_none, errW_some] <;> rfl) | (simp [*, errW_none, errW_some] <;> rfl), by repeat (first | (with_reducible first | exact HB.out | apply below_alloc | apply pw_below_drewN | apply below_drew1 | refine below_set ?_ GE101.out) | exact HB.out)⟩
  · rw [if_neg c3] at H
    have c3b0 : decide (0 ≤ a1_0) = false := decide_eq_false c3
    clear c3
    obtain rfl := Option.some.inj H
    go_enter Try.func22, Try.ntmps22
    go_wp2_with (first | ((with_reducible refine gate_dst (N := 3) rfl ?_); (try (refine gate_guard (by rfl) ?_; dsimp only)); refine box_event ?hg (N := 3) ?hd (cs := #[.int .i64 a1_0, .int .i64 a1_1]) (t := 26) ?hr ?_; (case hd => rfl); (case hg => rfl); (case hr => first | (go_simp; done) | (go_simp; rfl)); intro gb101 hg w9 hbox hb; have n0_ := Aside0.mk (below_step (by repeat (first | (with_reducible first | exact HB.out | apply below_alloc | apply pw_below_drewN | apply below_drew1) | exact HB.out)) hb); have n1_ := Aside0.mk (hbox); have n2_ := Aside0.mk ((by rw [hg]; exact (below_size (by repeat (first | (with_reducible first | exact HB.out | apply below_alloc | apply pw_below_drewN | apply below_drew1) | exact HB.out))) : w.heap.size ≤ gb101)); have n3_ := Aside0.mk ((by rw [hg]; exact (below_size (by repeat (first | (with_reducible first | exact HB.out | apply below_alloc | apply pw_below_drewN | apply below_drew1) | exact HB.out))) : w.heap.size ≤ gb101)); clear HB; have HB := n0_; have BK101 := n1_; have GW101 := n2_; have GE101 := n3_; clear n0_ n1_ n2_ n3_; clear hb hbox hg; have hcz10_0 : w9.cell? ⟨gb101, 0, none⟩ = some (.int .i64 a1_0) := (blk_cell BK101.out 0).trans rfl; have hcz10_1 : w9.cell? ⟨gb101, 1, none⟩ = some (.int .i64 a1_1) := (blk_cell BK101.out 1).trans rfl; have hfz10_0 := blk_frozen BK101.out 0; have hfz10_1 := blk_frozen BK101.out 1))
    go_ret
    exact ⟨by first | rfl | (simp [errW_none, errW_some] <;> rfl) | (simp [*, errW_none, errW_some] <;> rfl), by repeat (first | (with_reducible first | exact HB.out | apply below_alloc | apply pw_below_drewN | apply below_drew1 | refine below_set ?_ GE101.out) | exact HB.out)⟩

/-! ### fold_Byte: function 34 -/
def fold_Byte.f (a0 : Int) : Option (Int) := if 65 ≤ a0 then (if a0 ≤ 90 then (some ((((a0 + 97) % 256) - 65) % 256)) else (some a0)) else (some a0)
set_option maxHeartbeats 8000000 in
set_option maxRecDepth 100000 in
theorem fold_Byte.calls (a0 : Int) (r : Int) (w : World) (h : fold_Byte.f a0 = some r) :
    Calls Try.prog 34 #[.int .u8 a0] w fun e w' => e = .returned (.int .u8 r) ∧ Drawn0 w w' := by
  have H : (if 65 ≤ a0 then (if a0 ≤ 90 then (some ((((a0 + 97) % 256) - 65) % 256)) else (some a0)) else (some a0)) = some r := h
  clear h
  by_cases c2 : 65 ≤ a0
  · rw [if_pos c2] at H
    have c2b0 : decide (65 ≤ a0) = true := decide_eq_true c2
    clear c2
    by_cases c3 : a0 ≤ 90
    · rw [if_pos c3] at H
      have c3b0 : decide (a0 ≤ 90) = true := decide_eq_true c3
      clear c3
      obtain rfl := Option.some.inj H
      go_enter Try.func34, Try.ntmps34
      go_wp2
      go_ret
      exact ⟨by first | rfl | (simp; done) | (simp [*]; done) | (simp; exact (by intro a b; cases a <;> cases b <;> rfl : ∀ a b : Bool, (a == b) = (!(a != b))) _ _), by repeat (first | exact Drawn0.refl _ | apply Drawn0.step)⟩
    · rw [if_neg c3] at H
      have c3b0 : decide (a0 ≤ 90) = false := decide_eq_false c3
      clear c3
      obtain rfl := Option.some.inj H
      go_enter Try.func34, Try.ntmps34
      go_wp2
      go_ret
      exact ⟨by first | rfl | (simp; done) | (simp [*]; done) | (simp; exact (by intro a b; cases a <;> cases b <;> rfl : ∀ a b : Bool, (a == b) = (!(a != b))) _ _), by repeat (first | exact Drawn0.refl _ | apply Drawn0.step)⟩
  · rw [if_neg c2] at H
    have c2b0 : decide (65 ≤ a0) = false := decide_eq_false c2
    clear c2
    obtain rfl := Option.some.inj H
    go_enter Try.func34, Try.ntmps34
    go_wp2
    go_ret
    exact ⟨by first | rfl | (simp; done) | (simp [*]; done) | (simp; exact (by intro a b; cases a <;> cases b <;> rfl : ∀ a b : Bool, (a == b) = (!(a != b))) _ _), by repeat (first | exact Drawn0.refl _ | apply Drawn0.step)⟩

/-! ### fold_Word: function 24 -/
def fold_Word.f (a0 : Int) : Option (Bool) := (fold_Byte.f a0).bind fun t102 => (if 97 ≤ t102 then (if t102 ≤ 122 then (some true) else (if 48 ≤ t102 then (if t102 ≤ 57 then (some true) else (some (t102 == 95))) else (some (t102 == 95)))) else (if 48 ≤ t102 then (if t102 ≤ 57 then (some true) else (some (t102 == 95))) else (some (t102 == 95))))
set_option maxHeartbeats 8000000 in
set_option maxRecDepth 100000 in
theorem fold_Word.calls (a0 : Int) (r : Bool) (w : World) (h : fold_Word.f a0 = some r) :
    Calls Try.prog 24 #[.int .u8 a0] w fun e w' => e = .returned (.bool r) ∧ Drawn0 w w' := by
  have H : ((fold_Byte.f a0).bind fun t102 => (if 97 ≤ t102 then (if t102 ≤ 122 then (some true) else (if 48 ≤ t102 then (if t102 ≤ 57 then (some true) else (some (t102 == 95))) else (some (t102 == 95)))) else (if 48 ≤ t102 then (if t102 ≤ 57 then (some true) else (some (t102 == 95))) else (some (t102 == 95))))) = some r := h
  clear h
  replace H := Option.bind_eq_some_iff.mp H
  obtain ⟨t102, A20, H⟩ := H
  replace H : (if 97 ≤ t102 then (if t102 ≤ 122 then (some true) else (if 48 ≤ t102 then (if t102 ≤ 57 then (some true) else (some (t102 == 95))) else (some (t102 == 95)))) else (if 48 ≤ t102 then (if t102 ≤ 57 then (some true) else (some (t102 == 95))) else (some (t102 == 95)))) = some r := H
  have A2 := Aside0.mk A20
  clear A20
  by_cases c3 : 97 ≤ t102
  · rw [if_pos c3] at H
    have c3b0 : decide (97 ≤ t102) = true := decide_eq_true c3
    clear c3
    by_cases c4 : t102 ≤ 122
    · rw [if_pos c4] at H
      have c4b0 : decide (t102 ≤ 122) = true := decide_eq_true c4
      clear c4
      obtain rfl := Option.some.inj H
      go_enter Try.func24, Try.ntmps24
      go_wp2_with (first | ((with_reducible refine gate_callee (f := 34) rfl ?_); refine goesL_ (some 4) rfl rfl Try.func34 (by kernel_rfl) rfl #[.int .u8 a0] rfl (by (try simp only [List.map_toArray, List.map_cons, List.map_nil]); first | done | rfl | (simp only [List.length_drop, List.length_take]; rfl)) ?_; (with_reducible refine (fold_Byte.calls a0 t102 _ A2.out).mono ?_); rintro e w' ⟨rfl, ⟨nd, rfl⟩⟩; refine ⟨_, rfl, ?_⟩))
      go_ret
      exact ⟨by first | rfl | (simp; done) | (simp [*]; done) | (simp; exact (by intro a b; cases a <;> cases b <;> rfl : ∀ a b : Bool, (a == b) = (!(a != b))) _ _), by repeat (first | exact Drawn0.refl _ | apply Drawn0.step)⟩
    · rw [if_neg c4] at H
      have c4b0 : decide (t102 ≤ 122) = false := decide_eq_false c4
      clear c4
      by_cases c5 : 48 ≤ t102
      · rw [if_pos c5] at H
        have c5b0 : decide (48 ≤ t102) = true := decide_eq_true c5
        clear c5
        by_cases c6 : t102 ≤ 57
        · rw [if_pos c6] at H
          have c6b0 : decide (t102 ≤ 57) = true := decide_eq_true c6
          clear c6
          obtain rfl := Option.some.inj H
          go_enter Try.func24, Try.ntmps24
          go_wp2_with (first | ((with_reducible refine gate_callee (f := 34) rfl ?_); refine goesL_ (some 4) rfl rfl Try.func34 (by kernel_rfl) rfl #[.int .u8 a0] rfl (by (try simp only [List.map_toArray, List.map_cons, List.map_nil]); first | done | rfl | (simp only [List.length_drop, List.length_take]; rfl)) ?_; (with_reducible refine (fold_Byte.calls a0 t102 _ A2.out).mono ?_); rintro e w' ⟨rfl, ⟨nd, rfl⟩⟩; refine ⟨_, rfl, ?_⟩))
          go_ret
          exact ⟨by first | rfl | (simp; done) | (simp [*]; done) | (simp; exact (by intro a b; cases a <;> cases b <;> rfl : ∀ a b : Bool, (a == b) = (!(a != b))) _ _), by repeat (first | exact Drawn0.refl _ | apply Drawn0.step)⟩
        · rw [if_neg c6] at H
          have c6b0 : decide (t102 ≤ 57) = false := decide_eq_false c6
          clear c6
          obtain rfl := Option.some.inj H
          go_enter Try.func24, Try.ntmps24
          go_wp2_with (first | ((with_reducible refine gate_callee (f := 34) rfl ?_); refine goesL_ (some 4) rfl rfl Try.func34 (by kernel_rfl) rfl #[.int .u8 a0] rfl (by (try simp only [List.map_toArray, List.map_cons, List.map_nil]); first | done | rfl | (simp only [List.length_drop, List.length_take]; rfl)) ?_; (with_reducible refine (fold_Byte.calls a0 t102 _ A2.out).mono ?_); rintro e w' ⟨rfl, ⟨nd, rfl⟩⟩; refine ⟨_, rfl, ?_⟩))
          go_ret
          exact ⟨by first | rfl | (simp; done) | (simp [*]; done) | (simp; exact (by intro a b; cases a <;> cases b <;> rfl : ∀ a b : Bool, (a == b) = (!(a != b))) _ _), by repeat (first | exact Drawn0.refl _ | apply Drawn0.step)⟩
      · rw [if_neg c5] at H
        have c5b0 : decide (48 ≤ t102) = false := decide_eq_false c5
        clear c5
        obtain rfl := Option.some.inj H
        go_enter Try.func24, Try.ntmps24
        go_wp2_with (first | ((with_reducible refine gate_callee (f := 34) rfl ?_); refine goesL_ (some 4) rfl rfl Try.func34 (by kernel_rfl) rfl #[.int .u8 a0] rfl (by (try simp only [List.map_toArray, List.map_cons, List.map_nil]); first | done | rfl | (simp only [List.length_drop, List.length_take]; rfl)) ?_; (with_reducible refine (fold_Byte.calls a0 t102 _ A2.out).mono ?_); rintro e w' ⟨rfl, ⟨nd, rfl⟩⟩; refine ⟨_, rfl, ?_⟩))
        go_ret
        exact ⟨by first | rfl | (simp; done) | (simp [*]; done) | (simp; exact (by intro a b; cases a <;> cases b <;> rfl : ∀ a b : Bool, (a == b) = (!(a != b))) _ _), by repeat (first | exact Drawn0.refl _ | apply Drawn0.step)⟩
  · rw [if_neg c3] at H
    have c3b0 : decide (97 ≤ t102) = false := decide_eq_false c3
    clear c3
    by_cases c7 : 48 ≤ t102
    · rw [if_pos c7] at H
      have c7b0 : decide (48 ≤ t102) = true := decide_eq_true c7
      clear c7
      by_cases c8 : t102 ≤ 57
      · rw [if_pos c8] at H
        have c8b0 : decide (t102 ≤ 57) = true := decide_eq_true c8
        clear c8
        obtain rfl := Option.some.inj H
        go_enter Try.func24, Try.ntmps24
        go_wp2_with (first | ((with_reducible refine gate_callee (f := 34) rfl ?_); refine goesL_ (some 4) rfl rfl Try.func34 (by kernel_rfl) rfl #[.int .u8 a0] rfl (by (try simp only [List.map_toArray, List.map_cons, List.map_nil]); first | done | rfl | (simp only [List.length_drop, List.length_take]; rfl)) ?_; (with_reducible refine (fold_Byte.calls a0 t102 _ A2.out).mono ?_); rintro e w' ⟨rfl, ⟨nd, rfl⟩⟩; refine ⟨_, rfl, ?_⟩))
        go_ret
        exact ⟨by first | rfl | (simp; done) | (simp [*]; done) | (simp; exact (by intro a b; cases a <;> cases b <;> rfl : ∀ a b : Bool, (a == b) = (!(a != b))) _ _), by repeat (first | exact Drawn0.refl _ | apply Drawn0.step)⟩
      · rw [if_neg c8] at H
        have c8b0 : decide (t102 ≤ 57) = false := decide_eq_false c8
        clear c8
        obtain rfl := Option.some.inj H
        go_enter Try.func24, Try.ntmps24
        go_wp2_with (first | ((with_reducible refine gate_callee (f := 34) rfl ?_); refine goesL_ (some 4) rfl rfl Try.func34 (by kernel_rfl) rfl #[.int .u8 a0] rfl (by (try simp only [List.map_toArray, List.map_cons, List.map_nil]); first | done | rfl | (simp only [List.length_drop, List.length_take]; rfl)) ?_; (with_reducible refine (fold_Byte.calls a0 t102 _ A2.out).mono ?_); rintro e w' ⟨rfl, ⟨nd, rfl⟩⟩; refine ⟨_, rfl, ?_⟩))
        go_ret
        exact ⟨by first | rfl | (simp; done) | (simp [*]; done) | (simp; exact (by intro a b; cases a <;> cases b <;> rfl : ∀ a b : Bool, (a == b) = (!(a != b))) _ _), by repeat (first | exact Drawn0.refl _ | apply Drawn0.step)⟩
    · rw [if_neg c7] at H
      have c7b0 : decide (48 ≤ t102) = false := decide_eq_false c7
      clear c7
      obtain rfl := Option.some.inj H
      go_enter Try.func24, Try.ntmps24
      go_wp2_with (first | ((with_reducible refine gate_callee (f := 34) rfl ?_); refine goesL_ (some 4) rfl rfl Try.func34 (by kernel_rfl) rfl #[.int .u8 a0] rfl (by (try simp only [List.map_toArray, List.map_cons, List.map_nil]); first | done | rfl | (simp only [List.length_drop, List.length_take]; rfl)) ?_; (with_reducible refine (fold_Byte.calls a0 t102 _ A2.out).mono ?_); rintro e w' ⟨rfl, ⟨nd, rfl⟩⟩; refine ⟨_, rfl, ?_⟩))
      go_ret
      exact ⟨by first | rfl | (simp; done) | (simp [*]; done) | (simp; exact (by intro a b; cases a <;> cases b <;> rfl : ∀ a b : Bool, (a == b) = (!(a != b))) _ _), by repeat (first | exact Drawn0.refl _ | apply Drawn0.step)⟩

def isWord (c : Int) : Bool := (fold_Word.f c).getD false
theorem fold_Word_some (c : Int) : fold_Word.f c = some (isWord c) := by
  unfold isWord
  have h : ∃ b, fold_Word.f c = some b := by
    have h1 : ∃ d, fold_Byte.f c = some d := by unfold fold_Byte.f; (repeat' split) <;> exact ⟨_, rfl⟩
    obtain ⟨d, hd⟩ := h1
    unfold fold_Word.f
    rw [hd, Option.bind_some]
    (repeat' split) <;> exact ⟨_, rfl⟩
  obtain ⟨b, hb⟩ := h
  rw [hb]; rfl
def wordAt (l : List Int) (i : Int) : Bool := decide (0 ≤ i) && (decide (i < (l.length : Int)) && isWord (rd l i))

set_option maxHeartbeats 4000000 in
set_option maxRecDepth 100000 in
theorem free1_calls (i : Int) (A0 : Option Addr) (c0 : Nat) (l0 : List Int) (B : Nat) (w : World) (hB : w.cell? ⟨B, 0, none⟩ = some (.slice A0 l0.length c0)) (hr0 : Kd.C (Kd.int .u8) w A0 l0.length l0) :
    Calls Try.prog 23 #[.int .i64 i, .pointer (some ⟨B, 0, none⟩)] w fun e w' => e = .returned (.bool (wordAt l0 i)) ∧ Drawn0 w w' := by
  by_cases c1 : 0 ≤ i
  · by_cases c2 : i < (l0.length : Int)
    · obtain ⟨ad, rfl, hx⟩ := Kd.at_int hr0 i c1 c2
      have HH := Aside0.mk (show wordAt l0 i = isWord (rd l0 i) by simp [wordAt, c1, c2])
      have HW := Aside0.mk (fold_Word_some (rd l0 i))
      have c1b : decide (0 ≤ i) = true := decide_eq_true c1
      have c2b : decide (i < (l0.length : Int)) = true := decide_eq_true c2
      replace c1 := eq_true c1
      replace c2 := eq_true c2
      clear hr0
      go_enter Try.func23, Try.ntmps23
      go_wp2_with (go_at_call 24; refine (fold_Word.calls _ _ _ HW.out).mono ?_; rintro e w' ⟨rfl, ⟨nd, rfl⟩⟩)
      go_ret
      exact ⟨by rw [HH.out]; rfl, by repeat (first | exact Drawn0.refl _ | apply Drawn0.step)⟩
    · have HH := Aside0.mk (show wordAt l0 i = false by simp [wordAt, c2])
      have c1b : decide (0 ≤ i) = true := decide_eq_true c1
      have c2b : decide (i < (l0.length : Int)) = false := decide_eq_false c2
      clear hr0 c1 c2
      go_enter Try.func23, Try.ntmps23
      go_wp2
      go_ret
      exact ⟨by rw [HH.out]; rfl, by repeat (first | exact Drawn0.refl _ | apply Drawn0.step)⟩
  · have HH := Aside0.mk (show wordAt l0 i = false by simp [wordAt, c1])
    have c1b : decide (0 ≤ i) = false := decide_eq_false c1
    clear hr0 c1
    go_enter Try.func23, Try.ntmps23
    go_wp2
    go_ret
    exact ⟨by rw [HH.out]; rfl, by repeat (first | exact Drawn0.refl _ | apply Drawn0.step)⟩

/-- which pieces are free -/
def freeB (l : List Int) (s e : Int) : Bool := (decide (0 ≤ s) && (decide (s ≤ e) && decide (e ≤ (l.length : Int)))) && (!(s == e)) && (!(wordAt l (wrap64 (s - 1))) && !(wordAt l e))
def admit_Free.f (l0 : List Int) (a1_0 a1_1 : Int) : Option Bool := some (freeB l0 a1_0 a1_1)
theorem piece_some (l : List Int) (s e : Int) : admit_piece.f l s e = some (decide (0 ≤ s) && (decide (s ≤ e) && decide (e ≤ (l.length : Int)))) := by
  unfold admit_piece.f
  by_cases h1 : 0 ≤ s <;> by_cases h2 : s ≤ e <;> simp [h1, h2]

set_option maxHeartbeats 4000000 in
set_option maxRecDepth 100000 in
theorem admit_Free.calls (A0 : Option Addr) (c0 : Nat) (l0 : List Int) (a1_0 : Int) (a1_1 : Int) (r : Bool) (w : World) (hr0 : Kd.C (Kd.int .u8) w A0 l0.length l0) (hc0 : l0.length ≤ c0) (h : admit_Free.f l0 a1_0 a1_1 = some r) :
    Calls Try.prog 10 #[.slice A0 l0.length c0, .agg #[.int .i64 a1_0, .int .i64 a1_1]] w fun e w' => e = .returned (.bool r) ∧ Below w.heap.size w w' := by
  have hu26 := Try.underlying26
  obtain rfl := Option.some.inj h
  have hmf : ∀ (fn : Fn) (first cap : Array Value) (w : World), (Instr.makeFunc fn first cap).run Try.prog w = .ok (.func fn first cap) w := fun _ _ _ _ => rfl
  have HP := Aside0.mk (piece_some l0 a1_0 a1_1)
  have HR := Aside0.mk hr0
  have HC := Aside0.mk hc0
  obtain ⟨W, HWW⟩ : ∃ W, W = (w.alloc (.cells #[.slice A0 l0.length c0] 22)).alloc (.cells #[.int .i64 a1_0, .int .i64 a1_1] 26) := ⟨_, rfl⟩
  have g1 : W.cell? ⟨w.heap.size, 0, none⟩ = some (.slice A0 l0.length c0) := by
    rw [HWW, World.cell?_alloc_past _ _ _ (by simp), World.cell?_alloc_at _ _ _ _ rfl]; rfl
  have g2 : W.cell? ⟨w.heap.size + 1, 0, none⟩ = some (.int .i64 a1_0) := by
    rw [HWW, World.cell?_alloc_at _ _ _ _ (by simp)]; rfl
  have g3 : W.cell? ⟨w.heap.size + 1, 1, none⟩ = some (.int .i64 a1_1) := by
    rw [HWW, World.cell?_alloc_at _ _ _ _ (by simp)]; rfl
  have g4 : Kd.C (Kd.int .u8) W A0 l0.length l0 := by rw [HWW]; exact Kd.C_alloc (Kd.C_alloc hr0 _) _
  have g5 : Below w.heap.size w W := by rw [HWW]; exact below_alloc (below_alloc (Below.refl _ _) _) _
  have G1 := Aside0.mk g1
  have G2 := Aside0.mk g2
  have G3 := Aside0.mk g3
  have G4 := Aside0.mk g4
  have G5 := Aside0.mk g5
  have HW0 := Aside0.mk HWW
  clear h hr0 hc0 g1 g2 g3 g4 g5 HWW
  go_enter Try.func10, Try.ntmps10
  go_wp2_with fail
  rw [← HW0.out]
  refine (admit_piece.calls _ _ _ _ _ _ _ G4.out HC.out HP.out).mono ?_
  rintro e w1 ⟨rfl, hb⟩
  have G6 := Aside0.mk (below_step G5.out hb)
  have G7 := Aside0.mk (Kd.C_below G4.out hb)
  have k1 := pw_cell_below hb G1.out
  have k2 := pw_cell_below hb G2.out
  have k3 := pw_cell_below hb G3.out
  clear hb
  by_cases c1 : (decide (0 ≤ a1_0) && (decide (a1_0 ≤ a1_1) && decide (a1_1 ≤ (l0.length : Int)))) = true
  · by_cases c2 : a1_0 = a1_1
    · have HE := Aside0.mk (show freeB l0 a1_0 a1_1 = false by unfold freeB; rw [c2]; simp)
      have c2b : (a1_0 == a1_1) = true := by simpa using c2
      rw [c1]
      clear c1 c2
      go_wp2
      go_ret
      exact ⟨by rw [HE.out]; rfl, by repeat (first | exact G6.out | apply pw_below_drewN)⟩
    · have HE := Aside0.mk (show freeB l0 a1_0 a1_1 = (!(wordAt l0 (wrap64 (a1_0 - 1))) && !(wordAt l0 a1_1)) by
        unfold freeB; rw [c1]; simp [c2])
      have c2b : (a1_0 == a1_1) = false := by simpa using c2
      rw [c1]
      clear c1 c2
      generalize hwa : wordAt l0 (wrap64 (a1_0 - 1)) = t1 at *
      have HWA := Aside0.mk hwa
      clear hwa
      go_wp2_with fail
      refine (free1_calls _ _ _ _ _ _ k1 G7.out).mono ?_
      rintro e w2 ⟨rfl, ⟨nd, rfl⟩⟩
      rw [HWA.out]
      cases t1
      · go_wp2_with fail
        refine (free1_calls _ A0 c0 l0 w.heap.size (w1.drewN nd) k1 (Kd.C_drewN G7.out _)).mono ?_
        rintro e w2 ⟨rfl, ⟨nd, rfl⟩⟩
        go_wp2
        go_ret
        refine ⟨?_, by repeat (first | exact G6.out | apply pw_below_drewN)⟩
        rw [HE.out]; rfl
      · go_wp2
        go_ret
        refine ⟨?_, by repeat (first | exact G6.out | apply pw_below_drewN)⟩
        rw [HE.out]; rfl
  · have HE := Aside0.mk (show freeB l0 a1_0 a1_1 = false by unfold freeB; rw [Bool.eq_false_iff.mpr c1]; rfl)
    rw [Bool.eq_false_iff.mpr c1]
    clear c1
    go_wp2
    go_ret
    exact ⟨by rw [HE.out]; rfl, by repeat (first | exact G6.out | apply pw_below_drewN)⟩

-- NOT PRINTED: function 21 (admit_musts)

/-- whether a pair is a piece of a line -/
def pieceB (l : List Int) (s e : Int) : Bool := decide (0 ≤ s) && (decide (s ≤ e) && decide (e ≤ (l.length : Int)))
theorem piece_some' (l : List Int) (s e : Int) : admit_piece.f l s e = some (pieceB l s e) := piece_some l s e

set_option maxHeartbeats 4000000 in
set_option maxRecDepth 100000 in
theorem must1_calls (A0 : Option Addr) (c0 : Nat) (l0 : List Int) (a1_0 : Int) (a1_1 : Int) (B : Nat) (w : World) (hB : w.cell? ⟨B, 0, none⟩ = some (.slice A0 l0.length c0)) (hr0 : Kd.C (Kd.int .u8) w A0 l0.length l0) (hc0 : l0.length ≤ c0) :
    Calls Try.prog 31 #[.agg #[.int .i64 a1_0, .int .i64 a1_1], .pointer (some ⟨B, 0, none⟩)] w fun e w' => e = .returned (.bool (pieceB l0 a1_0 a1_1)) ∧ Below w.heap.size w w' := by
  have hu26 := Try.underlying26
  obtain ⟨W, HWW⟩ : ∃ W, W = w.alloc (.cells #[.int .i64 a1_0, .int .i64 a1_1] 26) := ⟨_, rfl⟩
  have g1 : (w.alloc (.cells #[.int .i64 a1_0, .int .i64 a1_1] 26)).cell? ⟨B, 0, none⟩ = some (.slice A0 l0.length c0) := pw_cell_below (below_alloc (Below.refl _ _) _) hB
  have G4 := Aside0.mk (Kd.C_alloc hr0 (.cells #[.int .i64 a1_0, .int .i64 a1_1] 26))
  have HC := Aside0.mk hc0
  clear HWW W hr0 hc0 hB
  go_enter Try.func31, Try.ntmps31
  go_wp2_with fail
  refine (admit_piece.calls _ _ _ _ _ _ _ G4.out HC.out (piece_some' _ _ _)).mono ?_
  rintro e w1 ⟨rfl, hb⟩
  have G6 := Aside0.mk (below_step (below_alloc (Below.refl _ _) _) hb)
  clear hb
  go_wp2
  go_ret
  exact ⟨rfl, G6.out⟩

set_option maxHeartbeats 4000000 in
set_option maxRecDepth 100000 in
theorem must2_calls (A0 : Option Addr) (c0 : Nat) (l0 : List Int) (a1_0 : Int) (a1_1 : Int) (B : Nat) (w : World) (hB : w.cell? ⟨B, 0, none⟩ = some (.slice A0 l0.length c0)) (hr0 : Kd.C (Kd.int .u8) w A0 l0.length l0) (hc0 : l0.length ≤ c0) :
    Calls Try.prog 32 #[.agg #[.int .i64 a1_0, .int .i64 a1_1], .pointer (some ⟨B, 0, none⟩)] w fun e w' => e = .returned (.bool (freeB l0 a1_0 a1_1)) ∧ Below w.heap.size w w' := by
  have hu26 := Try.underlying26
  have g1 : (w.alloc (.cells #[.int .i64 a1_0, .int .i64 a1_1] 26)).cell? ⟨B, 0, none⟩ = some (.slice A0 l0.length c0) := pw_cell_below (below_alloc (Below.refl _ _) _) hB
  have G4 := Aside0.mk (Kd.C_alloc hr0 (.cells #[.int .i64 a1_0, .int .i64 a1_1] 26))
  have HC := Aside0.mk hc0
  clear hr0 hc0 hB
  go_enter Try.func32, Try.ntmps32
  go_wp2_with fail
  refine (admit_Free.calls _ _ _ _ _ _ _ G4.out HC.out rfl).mono ?_
  rintro e w1 ⟨rfl, hb⟩
  have G6 := Aside0.mk (below_step (below_alloc (Below.refl _ _) _) hb)
  clear hb
  go_wp2
  go_ret
  exact ⟨rfl, G6.out⟩

def wholeB (l : List Int) (s e : Int) : Bool := (s == 0) && (e == (l.length : Int))
set_option maxHeartbeats 4000000 in
set_option maxRecDepth 100000 in
theorem must3_calls (A0 : Option Addr) (c0 : Nat) (l0 : List Int) (a1_0 : Int) (a1_1 : Int) (B : Nat) (w : World) (hB : w.cell? ⟨B, 0, none⟩ = some (.slice A0 l0.length c0)) :
    Calls Try.prog 33 #[.agg #[.int .i64 a1_0, .int .i64 a1_1], .pointer (some ⟨B, 0, none⟩)] w fun e w' => e = .returned (.bool (wholeB l0 a1_0 a1_1)) ∧ Below w.heap.size w w' := by
  have hu26 := Try.underlying26
  have g1 : (w.alloc (.cells #[.int .i64 a1_0, .int .i64 a1_1] 26)).cell? ⟨B, 0, none⟩ = some (.slice A0 l0.length c0) := pw_cell_below (below_alloc (Below.refl _ _) _) hB
  have HE : ∀ b, (a1_0 == 0) = b → wholeB l0 a1_0 a1_1 = (b && (a1_1 == (l0.length : Int))) := by rintro b rfl; rfl
  clear hB
  cases hb : (a1_0 == 0)
  all_goals
    have HE' := Aside0.mk (HE _ hb)
    clear HE
    go_enter Try.func33, Try.ntmps33
    go_wp2
    go_ret
    exact ⟨by rw [HE'.out]; rfl, below_alloc (Below.refl _ _) _⟩

def mustFns (x y : Bool) : List Nat := [31] ++ ((if x then [32] else []) ++ (if y then [33] else []))
def mustVal (B k : Nat) : Value := .func (.func k) #[] #[.pointer (some ⟨B, 0, none⟩)]
theorem info47 : (Try.prog.info? 47).map (fun i => (i.zero, i.size, i.bytes)) = some (some (.agg #[.nilFunc]), 1, 8) := by kernel_rfl

set_option maxHeartbeats 4000000 in
set_option maxRecDepth 100000 in
theorem musts_calls (A0 : Option Addr) (c0 : Nat) (l0 : List Int) (x y : Bool) (w : World) :
    Calls Try.prog 21 #[.slice A0 l0.length c0, .bool x, .bool y] w fun e w' => ∃ v : Value, e = .returned v ∧
      w'.ownsRow (w.heap.size + 1) 47 1 v (mustFns x y).length ((mustFns x y).map (mustVal w.heap.size)) ∧
      w'.cell? ⟨w.heap.size, 0, none⟩ = some (.slice A0 l0.length c0) ∧ Below w.heap.size w w' := by
  have hu47 := Try.underlying47
  have hmf : ∀ (fn : Fn) (first cap : Array Value) (w : World), (Instr.makeFunc fn first cap).run Try.prog w = .ok (.func fn first cap) w := fun _ _ _ _ => rfl
  have L1 : ((w.alloc (.cells #[.slice A0 l0.length c0] 22)).alloc (.cells #[mustVal w.heap.size 31] 47)).ownsRow (w.heap.size + 1) 47 1 (.slice (some ⟨w.heap.size + 1, 0, none⟩) 1 1) 1 [mustVal w.heap.size 31] := by
    have h := World.ownsRow_lit (base := w.heap.size + 1) (e := 47) (size := 1) (w.alloc (.cells #[.slice A0 l0.length c0] 22)) #[mustVal w.heap.size 31] 1 (by simp) (by decide) (by simp)
    simpa using h
  have L2 : ((w.alloc (.cells #[.slice A0 l0.length c0] 22)).alloc (.cells #[mustVal w.heap.size 31] 47)).cell? ⟨w.heap.size, 0, none⟩ = some (.slice A0 l0.length c0) := by
    rw [World.cell?_alloc_past _ _ _ (by simp), World.cell?_alloc_at _ _ _ _ rfl]; rfl
  have L3 : Below w.heap.size w ((w.alloc (.cells #[.slice A0 l0.length c0] 22)).alloc (.cells #[mustVal w.heap.size 31] 47)) := below_alloc (below_alloc (Below.refl _ _) _) _
  have L4 : Below (w.heap.size + 1) ((w.alloc (.cells #[.slice A0 l0.length c0] 22)).alloc (.cells #[mustVal w.heap.size 31] 47)) ((w.alloc (.cells #[.slice A0 l0.length c0] 22)).alloc (.cells #[mustVal w.heap.size 31] 47)) := Below.refl _ _
  have M1 := Aside0.mk L1
  have M2 := Aside0.mk L2
  have M3 := Aside0.mk L3
  have M4 := Aside0.mk L4
  clear L1 L2 L3 L4
  cases x <;> cases y
  · go_enter Try.func21, Try.ntmps21
    go_wp2
    go_ret
    exact ⟨_, rfl, M1.out, M2.out, M3.out⟩
  · go_enter Try.func21, Try.ntmps21
    go_wp2_with (at_builtin; refine print_append_cells (w.heap.size + 1) rfl (.tmp 18) (.tmp 21) 43 47 _ 1 8 rfl Try.underlying43 info47 rfl (by decide) (by decide) (.slice (some ⟨w.heap.size + 1, 0, none⟩) 1 1) 1 [mustVal w.heap.size 31] [mustVal w.heap.size 33] rfl (by first | rfl | (show Value.slice _ 1 1 = Value.slice _ 1 1; simp)) rfl (by simp [mustVal, Value.oneCell']) M1.out M4.out (by simp) (by decide) ?_; intro v1 w2 ho hb hg hat)
    go_ret
    exact ⟨_, rfl, ho, hg.cell M2.out (by simp [Value.ownBlock]), M3.out.trans (hb.mono (by simp))⟩
  · go_enter Try.func21, Try.ntmps21
    go_wp2_with (at_builtin; refine print_append_cells (w.heap.size + 1) rfl (.tmp 12) (.tmp 15) 43 47 _ 1 8 rfl Try.underlying43 info47 rfl (by decide) (by decide) (.slice (some ⟨w.heap.size + 1, 0, none⟩) 1 1) 1 [mustVal w.heap.size 31] [mustVal w.heap.size 32] rfl (by first | rfl | (show Value.slice _ 1 1 = Value.slice _ 1 1; simp)) rfl (by simp [mustVal, Value.oneCell']) M1.out M4.out (by simp) (by decide) ?_; intro v1 w2 ho hb hg hat)
    go_ret
    exact ⟨_, rfl, ho, hg.cell M2.out (by simp [Value.ownBlock]), M3.out.trans (hb.mono (by simp))⟩
  · go_enter Try.func21, Try.ntmps21
    go_wp2_with (first | (at_builtin; refine print_append_cells (w.heap.size + 1) rfl (.tmp 12) (.tmp 15) 43 47 _ 1 8 rfl Try.underlying43 info47 rfl (by decide) (by decide) (.slice (some ⟨w.heap.size + 1, 0, none⟩) 1 1) 1 [mustVal w.heap.size 31] [mustVal w.heap.size 32] rfl (by first | rfl | (show Value.slice _ 1 1 = Value.slice _ 1 1; simp)) rfl (by simp [mustVal, Value.oneCell']) M1.out M4.out (by simp) (by decide) ?_; intro v1 w2 ho hb hg hat; have N1 := Aside0.mk ho; have N2 := Aside0.mk hb; have N3 := Aside0.mk (hg.cell M2.out (by simp [Value.ownBlock])); clear M1 M4 ho hb hg hat) | (at_builtin; refine print_append_cells (w.heap.size + 1) rfl (.tmp 18) (.tmp 21) 43 47 _ 1 8 rfl Try.underlying43 info47 rfl (by decide) (by decide) v1 2 [mustVal w.heap.size 31, mustVal w.heap.size 32] [mustVal w.heap.size 33] rfl (by first | rfl | (show Value.slice _ 1 1 = Value.slice _ 1 1; simp)) rfl (by simp [mustVal, Value.oneCell']) N1.out N2.out (by have := N2.out.size; simp at this ⊢; omega) (by decide) ?_; intro v1 w2 ho hb hg hat))
    go_ret
    exact ⟨_, rfl, ho, hg.cell N3.out (fun he => by have := (N1.out.lt _ he.symm).1; simp at this; omega), M3.out.trans (hb.mono (by simp))⟩

def mustB (l : List Int) (s e : Int) (k : Nat) : Bool := if k = 31 then pieceB l s e else if k = 32 then freeB l s e else wholeB l s e
def mayB (l : List Int) (s e : Int) (x y : Bool) : Bool := (mustFns x y).all (mustB l s e)
def admit_May.f (l0 : List Int) (a1_0 a1_1 : Int) (a2 a3 : Bool) : Option Bool := some (mayB l0 a1_0 a1_1 a2 a3)
theorem must_calls (k : Nat) (hk : k = 31 ∨ k = 32 ∨ k = 33) (A0 : Option Addr) (c0 : Nat) (l0 : List Int) (a1_0 : Int) (a1_1 : Int) (B : Nat) (w : World) (hB : w.cell? ⟨B, 0, none⟩ = some (.slice A0 l0.length c0)) (hr0 : Kd.C (Kd.int .u8) w A0 l0.length l0) (hc0 : l0.length ≤ c0) :
    Calls Try.prog k #[.agg #[.int .i64 a1_0, .int .i64 a1_1], .pointer (some ⟨B, 0, none⟩)] w fun e w' => e = .returned (.bool (mustB l0 a1_0 a1_1 k)) ∧ Below w.heap.size w w' := by
  rcases hk with rfl | rfl | rfl
  · exact must1_calls A0 c0 l0 a1_0 a1_1 B w hB hr0 hc0
  · exact must2_calls A0 c0 l0 a1_0 a1_1 B w hB hr0 hc0
  · exact must3_calls A0 c0 l0 a1_0 a1_1 B w hB
theorem mustFns_mem (x y : Bool) (j : Nat) (h : j < (mustFns x y).length) : (mustFns x y).getD j 0 = 31 ∨ (mustFns x y).getD j 0 = 32 ∨ (mustFns x y).getD j 0 = 33 := by
  revert h
  cases x <;> cases y <;> simp [mustFns] <;> intro h
  · have : j = 0 := by omega
    subst this; simp
  · rcases (by omega : j = 0 ∨ j = 1) with rfl | rfl <;> simp
  · rcases (by omega : j = 0 ∨ j = 1) with rfl | rfl <;> simp
  · rcases (by omega : j = 0 ∨ j = 1 ∨ j = 2) with rfl | rfl | rfl <;> simp

set_option maxHeartbeats 4000000 in
set_option maxRecDepth 100000 in
theorem admit_May.calls (A0 : Option Addr) (c0 : Nat) (l0 : List Int) (a1_0 : Int) (a1_1 : Int) (a2 : Bool) (a3 : Bool) (r : Bool) (w : World) (hr0 : Kd.C (Kd.int .u8) w A0 l0.length l0) (hc0 : l0.length ≤ c0) (h : admit_May.f l0 a1_0 a1_1 a2 a3 = some r) :
    Calls Try.prog 9 #[.slice A0 l0.length c0, .agg #[.int .i64 a1_0, .int .i64 a1_1], .bool a2, .bool a3] w fun e w' => e = .returned (.bool r) ∧ Below w.heap.size w w' := by
  have hu26 := Try.underlying26
  have hu47 := Try.underlying47
  obtain rfl := Option.some.inj h
  have HR := Aside0.mk hr0
  have HC := Aside0.mk hc0
  clear h hr0 hc0
  go_enter Try.func9, Try.ntmps9
  go_wp2_with fail
  have hs : (w.alloc (.cells #[.int .i64 a1_0, .int .i64 a1_1] 26)).heap.size = w.heap.size + 1 := by simp
  refine (musts_calls A0 c0 l0 a2 a3 _).mono ?_
  rintro e w1 ⟨v, rfl, ho, hB, hb⟩
  have hpos : 0 < (mustFns a2 a3).length := by cases a2 <;> cases a3 <;> simp [mustFns]
  have hn3 : (mustFns a2 a3).length ≤ 3 := by cases a2 <;> cases a3 <;> simp [mustFns]
  obtain ⟨g, cap, rfl, hg1, hg2⟩ := ho.form hpos
  rw [hs] at ho hB
  have G0 := Aside0.mk (show ∀ j, j < (mustFns a2 a3).length → w1.cell? ⟨g, j, none⟩ = some (mustVal (w.heap.size + 1) ((mustFns a2 a3).getD j 0)) from fun j hj => by
    rw [ho.cellAt j (by omega), List.getElem?_map]
    simp [List.getD_eq_getElem?_getD, List.getElem?_eq_getElem hj])
  have G1 := Aside0.mk hB
  have G2 := Aside0.mk (Kd.C_below (Kd.C_alloc HR.out (.cells #[.int .i64 a1_0, .int .i64 a1_1] 26)) hb)
  have G3 := Aside0.mk (pw_cell_below hb (a := ⟨w.heap.size, 0, none⟩) (v := .int .i64 a1_0) (by rw [World.cell?_alloc_at _ _ _ _ rfl]; rfl))
  have G4 := Aside0.mk (pw_cell_below hb (a := ⟨w.heap.size, 1, none⟩) (v := .int .i64 a1_1) (by rw [World.cell?_alloc_at _ _ _ _ rfl]; rfl))
  have G5 := Aside0.mk (below_step (below_alloc (Below.refl _ _) _) hb)
  clear hb ho hB hs HR
  generalize hfs : mustFns a2 a3 = fs at *
  have HFS := Aside0.mk hfs
  clear hfs
  go_wp2
  go_loopw [16] (fun i wr => ∃ k : Nat, k ≤ fs.length ∧ i = .int .i64 k ∧ Aside0 ((fs.take k).all (mustB l0 a1_0 a1_1) = true) ∧ Aside0 (Below w1.heap.size w1 wr)) (fun i _ => fs.length - (intOf i).toNat)
  case atStart => exact ⟨0, Nat.zero_le _, rfl, ⟨by simp⟩, ⟨Below.refl _ _⟩⟩
  case round =>
    obtain ⟨k, hk, rfl, HA, HB⟩ := hrel
    by_cases hlt : k < fs.length
    · have k0 : wr.cell? ⟨g, k, none⟩ = some (.func (.func (fs.getD k 0)) #[] #[.pointer (some ⟨w.heap.size + 1, 0, none⟩)]) := pw_cell_below HB.out (G0.out k hlt)
      have k2 := pw_cell_below HB.out G3.out
      have k3 := pw_cell_below HB.out G4.out
      have g47 : (Try.prog.underlying 47) = some (TypeDesc.struct #[{ name := "be", type := 45, offset := 0, embedded := false, tag := "", pkgPath := "seine/admit", byteOffset := 0 }]) := Try.underlying47
      generalize hfk : fs.getD k 0 = f at k0
      have HF := Aside0.mk hfk
      clear hfk
      have hm := mustFns_mem a2 a3 k (by rw [HFS.out]; exact hlt)
      rw [HFS.out, HF.out] at hm
      have HS := Aside0.mk (show (fs.take (k + 1)).all (mustB l0 a1_0 a1_1) = mustB l0 a1_0 a1_1 f from by
        rw [List.take_succ_eq_append_getElem hlt, List.all_append, HA.out]
        have e1 : fs[k] = f := by have := HF.out; rwa [List.getD_eq_getElem?_getD, List.getElem?_eq_getElem hlt] at this
        simp [e1])
      have HN := Aside0.mk (show mustB l0 a1_0 a1_1 f = false → mayB l0 a1_0 a1_1 a2 a3 = false from fun hf => by
        unfold mayB
        rw [HFS.out, List.all_eq_false]
        have e1 : fs[k] = f := by have := HF.out; rwa [List.getD_eq_getElem?_getD, List.getElem?_eq_getElem hlt] at this
        exact ⟨f, e1 ▸ List.getElem_mem hlt, by simp [hf]⟩)
      clear HF
      have z1 : (wr.alloc (.cells #[.func (.func f) #[] #[.pointer (some ⟨w.heap.size + 1, 0, none⟩)]] 47)).cell? ⟨w.heap.size, 0, none⟩ = some (.int .i64 a1_0) := pw_cell_below (below_alloc (Below.refl _ _) _) k2
      have z2 : (wr.alloc (.cells #[.func (.func f) #[] #[.pointer (some ⟨w.heap.size + 1, 0, none⟩)]] 47)).cell? ⟨w.heap.size, 1, none⟩ = some (.int .i64 a1_1) := pw_cell_below (below_alloc (Below.refl _ _) _) k3
      have Z3 := Aside0.mk (show (wr.alloc (.cells #[.func (.func f) #[] #[.pointer (some ⟨w.heap.size + 1, 0, none⟩)]] 47)).cell? ⟨w.heap.size + 1, 0, none⟩ = some (.slice A0 l0.length c0) from pw_cell_below (below_alloc HB.out _) G1.out)
      have Z4 := Aside0.mk (show Kd.C (Kd.int .u8) (wr.alloc (.cells #[.func (.func f) #[] #[.pointer (some ⟨w.heap.size + 1, 0, none⟩)]] 47)) A0 l0.length l0 from Kd.C_below G2.out (below_alloc HB.out _))
      have Z5 := Aside0.mk (below_alloc HB.out (.cells #[.func (.func f) #[] #[.pointer (some ⟨w.heap.size + 1, 0, none⟩)]] 47))
      have hmf := Aside0.mk (must_calls f hm A0 c0 l0 a1_0 a1_1 (w.heap.size + 1) _ Z3.out Z4.out HC.out)
      clear k2 k3 G3 G4 Z3 Z4
      rcases hm with rfl | rfl | rfl
      all_goals
        go_wp2_with fail
        refine hmf.out.mono ?_
        rintro e w2 ⟨rfl, hb2⟩
        have Z6 := Aside0.mk (below_step Z5.out hb2)
        clear hb2 hmf z1 z2 k0
      all_goals
        generalize hq : mustB l0 a1_0 a1_1 _ = q at *
        clear hq
        cases q
        · go_wp2
          go_ret
          exact ⟨by rw [HN.out trivial]; rfl, G5.out.trans (Z6.out.mono G5.out.size)⟩
        · go_wp2
          go_roundw
          case rel => exact ⟨k + 1, by omega, by go_num, ⟨HS.out⟩, ⟨Z6.out⟩⟩
          case measure => simp [intOf]; omega
    · have hke : k = fs.length := by omega
      have HS := Aside0.mk (show mayB l0 a1_0 a1_1 a2 a3 = true from by
        unfold mayB
        rw [HFS.out]
        have := HA.out
        rwa [hke, List.take_length] at this)
      clear hke
      go_wp2
      go_ret
      exact ⟨by rw [HS.out]; rfl, G5.out.trans (HB.out.mono G5.out.size)⟩

/-- a row of bytes that a constant text was laid as -/
theorem const_reads (w : World) (xs : List Int) (e : TypeId) (fr : Nat × Nat) (hm : xs.length ≤ 9223372036854775807) :
    Kd.C (Kd.int .u8) (w.alloc (.cells (xs.map (Value.int .u8)).toArray e fr)) (some ⟨w.heap.size, 0, none⟩) xs.length xs := by
  refine Kd.C_of_reads (d := (0 : Int)) (h1 := fun _ => rfl) ⟨rfl, hm, fun _ => ⟨_, rfl, fun j hj => ?_⟩⟩
  rw [add_plain, World.cell?_alloc_mark]
  simp [List.getD_eq_getElem?_getD, List.getElem?_eq_getElem hj]
def awk : List Int := [97, 98, 32, 99, 100, 95]
def seinelaw22_awake.f : Option Bool := some true
set_option maxHeartbeats 8000000 in
set_option maxRecDepth 100000 in
theorem seinelaw22_awake.calls (r : Bool) (w : World) (h : seinelaw22_awake.f = some r) :
    Calls Try.prog 8 #[] w fun e w' => e = .returned (.bool r) ∧ Below w.heap.size w w' := by
  obtain rfl := Option.some.inj h
  have hu26 := Try.underlying26
  have kc := fun (w : World) (C : Array Value) (n c : Nat) => Lib.run_convert_bytes_const (P := Try.prog) w 22 5 C n c Try.underlying22 Try.underlying5
  have HC := Aside0.mk (const_reads w awk 5 (6, 7) (by decide))
  have HB := Aside0.mk (below_alloc (Below.refl w.heap.size w) (.cells (awk.map (Value.int .u8)).toArray 5 (6, 7)))
  clear h
  go_enter Try.func8, Try.ntmps8
  go_wp2_with fail
  refine (admit_Free.calls (some ⟨w.heap.size, 0, none⟩) 6 awk 0 2 true _ HC.out (by decide) (by decide +kernel)).mono ?_
  rintro e w1 ⟨rfl, hb⟩
  have C1 := Aside0.mk (Kd.C_below HC.out hb)
  have B1 := Aside0.mk (below_step HB.out hb)
  clear hb HC HB
  go_wp2_with fail
  refine (admit_Free.calls (some ⟨w.heap.size, 0, none⟩) 6 awk 3 5 false _ C1.out (by decide) (by decide +kernel)).mono ?_
  rintro e w2 ⟨rfl, hb⟩
  have C2 := Aside0.mk (Kd.C_below C1.out hb)
  have B2 := Aside0.mk (below_step B1.out hb)
  clear hb C1 B1
  go_wp2_with fail
  refine (admit_May.calls (some ⟨w.heap.size, 0, none⟩) 6 awk 3 5 false false true _ C2.out (by decide) (by decide +kernel)).mono ?_
  rintro e w3 ⟨rfl, hb⟩
  have C3 := Aside0.mk (Kd.C_below C2.out hb)
  have B3 := Aside0.mk (below_step B2.out hb)
  clear hb C2 B2
  go_wp2_with fail
  refine (admit_May.calls (some ⟨w.heap.size, 0, none⟩) 6 awk 0 2 false true false _ C3.out (by decide) (by decide +kernel)).mono ?_
  rintro e w4 ⟨rfl, hb⟩
  have C4 := Aside0.mk (Kd.C_below C3.out hb)
  have B4 := Aside0.mk (below_step B3.out hb)
  clear hb C3 B3
  go_wp2_with fail
  refine (admit_May.calls (some ⟨w.heap.size, 0, none⟩) 6 awk 0 6 true true true _ C4.out (by decide) (by decide +kernel)).mono ?_
  rintro e w5 ⟨rfl, hb⟩
  have B5 := Aside0.mk (below_step B4.out hb)
  clear hb C4 B4
  go_wp2
  go_ret
  exact ⟨rfl, B5.out⟩

/-! ### seineref03_Same: function 12 -/
def seineref03_Same.l0 : Nat → List (S26) → List (S26) → Int → Option (Bool)
  | 0, _, _, _ => none
  | k + 1, x0, x1, x5 => if x5 < (x0.length : Int) then (if 0 ≤ x5 then (if x5 < (x1.length : Int) then (if (!(((rd_T26 x0 x5).f0) == ((rd_T26 x1 x5).f0)) || (!(((rd_T26 x0 x5).f1) == ((rd_T26 x1 x5).f1)))) = true then (some false) else (seineref03_Same.l0 k x0 x1 (wrap64 (x5 + 1)))) else (none)) else (none)) else (some true)
def seineref03_Same.f (k : Nat) (l0 : List (S26)) (l1 : List (S26)) : Option (Bool) := if (l0.length : Int) = (l1.length : Int) then (seineref03_Same.l0 k l0 l1 0) else (some false)
theorem seineref03_Same.mono_l : ∀ k, (∀ y0 y1 y2, LeO (seineref03_Same.l0 k y0 y1 y2) (seineref03_Same.l0 (k + 1) y0 y1 y2))
  | 0 => fun _ _ _ r h => by simp [seineref03_Same.l0] at h
  | k + 1 => by
    have ih0 := seineref03_Same.mono_l k
    · intro y0 y1 y2
      unfold seineref03_Same.l0
      repeat' first
      | (with_reducible exact ih0 _ _ _)
      | (with_reducible exact LeO.refl _)
      | (with_reducible exact LeO.none _)
      | (with_reducible refine LeO.ite ?_ ?_)
      | (with_reducible refine LeO.bind ?_ (fun _ => ?_))
      | exact ih0 _ _ _
      | exact LeO.none _
      | refine LeO.ite ?_ ?_
      | refine LeO.bind ?_ (fun _ => ?_)
theorem seineref03_Same.mono : ∀ a0 a1 k, LeO (seineref03_Same.f k a0 a1) (seineref03_Same.f (k + 1) a0 a1) := by
  intro a0 a1 k
  have ih0 := seineref03_Same.mono_l k
  unfold seineref03_Same.f
  repeat' first
      | (with_reducible exact ih0 _ _ _)
      | (with_reducible exact LeO.refl _)
      | (with_reducible exact LeO.none _)
      | (with_reducible refine LeO.ite ?_ ?_)
      | (with_reducible refine LeO.bind ?_ (fun _ => ?_))
      | exact ih0 _ _ _
      | exact LeO.none _
      | refine LeO.ite ?_ ?_
      | refine LeO.bind ?_ (fun _ => ?_)
set_option maxHeartbeats 8000000 in
set_option maxRecDepth 100000 in
theorem seineref03_Same.calls (k : Nat) (A0 : Option Addr) (c0 : Nat) (l0 : List (S26)) (A1 : Option Addr) (c1 : Nat) (l1 : List (S26)) (r : Bool) (w : World) (hr0 : Kd.C k26 w A0 l0.length l0) (hc0 : l0.length ≤ c0) (hr1 : Kd.C k26 w A1 l1.length l1) (hc1 : l1.length ≤ c1) (h : seineref03_Same.f k l0 l1 = some r) :
    Calls Try.prog 12 #[.slice A0 l0.length c0, .slice A1 l1.length c1] w fun e w' => e = .returned (.bool r) ∧ Drawn0 w w' := by
  have hu26 := Try.underlying26
  have HR0 := Aside0.mk hr0
  have HC0 := Aside0.mk hc0
  clear hr0 hc0
  have HR1 := Aside0.mk hr1
  have HC1 := Aside0.mk hc1
  clear hr1 hc1
  have H : (if (l0.length : Int) = (l1.length : Int) then (seineref03_Same.l0 k l0 l1 0) else (some false)) = some r := h
  clear h
  by_cases c3 : (l0.length : Int) = (l1.length : Int)
  · rw [if_pos c3] at H
    have c3b0 : ((l0.length : Int) == (l1.length : Int)) = true := beq_iff_eq.mpr c3
    have c3b1 : ((l0.length : Int) != (l1.length : Int)) = false := bne_eq_false_iff_eq.mpr c3
    have c3b2 : (l0.length == l1.length) = true := by first | simpa using c3 | (simp at c3 ⊢; omega)
    clear c3
    have H' := Aside0.mk H
    clear H
    go_enter Try.func12, Try.ntmps12
    go_wp2
    repeat (go_quiet (fail); try go_wp2)
    go_loopg [5] k (fun kq v5 w' => ∃ (x5_1 : Int), v5 = .int .i64 x5_1 ∧ Aside0 (seineref03_Same.l0 kq l0 l1 x5_1 = some r) ∧ Aside0 (kq ≤ k) ∧ Drawn0 w w')
    case atStart => exact ⟨(0), (by first | rfl | (simp; done) | (simp [*]; done) | (simp; exact (by intro a b; cases a <;> cases b <;> rfl : ∀ a b : Bool, (a == b) = (!(a != b))) _ _)), H', ⟨Nat.le_refl _⟩, by repeat (first | exact Drawn0.refl _ | apply Drawn0.step)⟩
    case round =>
      clear H'
      try clear c1
      try clear p2
      try clear c3
      try clear c3b0
      try clear c3b1
      try clear c3b2
      obtain ⟨x5_1, rfl, HA, HK1, ⟨m1, rfl⟩⟩ := hrel
      cases gk with
      | zero => exact absurd HA.out (by simp [seineref03_Same.l0])
      | succ k1 =>
        have H := HA.out
        clear HA
        simp only [seineref03_Same.l0] at H
        by_cases c4 : x5_1 < (l0.length : Int)
        · rw [if_pos c4] at H
          have c4b0 : decide (x5_1 < (l0.length : Int)) = true := decide_eq_true c4
          clear c4
          by_cases c5 : 0 ≤ x5_1
          · rw [if_pos c5] at H
            have c5b0 : decide (0 ≤ x5_1) = true := decide_eq_true c5
            clear c5
            by_cases c6 : x5_1 < (l1.length : Int)
            · rw [if_pos c6] at H
              have c6b0 : decide (x5_1 < (l1.length : Int)) = true := decide_eq_true c6
              clear c6
              by_cases c7 : (!(((rd_T26 l0 x5_1).f0) == ((rd_T26 l1 x5_1).f0)) || (!(((rd_T26 l0 x5_1).f1) == ((rd_T26 l1 x5_1).f1)))) = true
              · rw [if_pos c7] at H
                have c7b0 : (!(((rd_T26 l0 x5_1).f0) == ((rd_T26 l1 x5_1).f0)) || (!(((rd_T26 l0 x5_1).f1) == ((rd_T26 l1 x5_1).f1)))) = true := c7
                clear c7
                obtain rfl := Option.some.inj H
                have p103 : 0 ≤ (x5_1 : Int) := of_decide_eq_true (by first | (with_reducible assumption) | assumption)
                have q103 : x5_1 < (l0.length : Int) := of_decide_eq_true (by first | (with_reducible assumption) | assumption)
                obtain ⟨ad103, e103, hx103_0, hx103_1⟩ := at_T26 HR0.out x5_1 p103 q103
                cases e103
                replace p103 := eq_true p103
                replace q103 := eq_true q103
                have p104 : 0 ≤ (x5_1 : Int) := of_decide_eq_true (by first | (with_reducible assumption) | assumption)
                have q104 : x5_1 < (l1.length : Int) := of_decide_eq_true (by first | (with_reducible assumption) | assumption)
                obtain ⟨ad104, e104, hx104_0, hx104_1⟩ := at_T26 HR1.out x5_1 p104 q104
                cases e104
                replace p104 := eq_true p104
                replace q104 := eq_true q104
                go_wp2
                repeat (go_quiet (fail); try go_wp2)
                go_ret
                exact ⟨by first | rfl | (simp; done) | (simp [*]; done) | (simp; exact (by intro a b; cases a <;> cases b <;> rfl : ∀ a b : Bool, (a == b) = (!(a != b))) _ _), by repeat (first | exact Drawn0.refl _ | apply Drawn0.step)⟩
              · rw [if_neg c7] at H
                have c7b0 : (!(((rd_T26 l0 x5_1).f0) == ((rd_T26 l1 x5_1).f0)) || (!(((rd_T26 l0 x5_1).f1) == ((rd_T26 l1 x5_1).f1)))) = false := by simpa using c7
                clear c7
                have H' := Aside0.mk H
                clear H
                have p103 : 0 ≤ (x5_1 : Int) := of_decide_eq_true (by first | (with_reducible assumption) | assumption)
                have q103 : x5_1 < (l0.length : Int) := of_decide_eq_true (by first | (with_reducible assumption) | assumption)
                obtain ⟨ad103, e103, hx103_0, hx103_1⟩ := at_T26 HR0.out x5_1 p103 q103
                cases e103
                replace p103 := eq_true p103
                replace q103 := eq_true q103
                have p104 : 0 ≤ (x5_1 : Int) := of_decide_eq_true (by first | (with_reducible assumption) | assumption)
                have q104 : x5_1 < (l1.length : Int) := of_decide_eq_true (by first | (with_reducible assumption) | assumption)
                obtain ⟨ad104, e104, hx104_0, hx104_1⟩ := at_T26 HR1.out x5_1 p104 q104
                cases e104
                replace p104 := eq_true p104
                replace q104 := eq_true q104
                go_wp2
                repeat (go_quiet (fail); try go_wp2)
                go_roundg k1
                case measure => have := HK1.out; omega
                case rel => exact ⟨(wrap64 (x5_1 + 1)), (by first | rfl | (simp; done) | (simp [*]; done) | (simp; exact (by intro a b; cases a <;> cases b <;> rfl : ∀ a b : Bool, (a == b) = (!(a != b))) _ _)), H', ⟨by have := HK1.out; omega⟩, by repeat (first | exact Drawn0.refl _ | apply Drawn0.step)⟩
            · rw [if_neg c6] at H
              exact absurd H (by simp)
          · rw [if_neg c5] at H
            exact absurd H (by simp)
        · rw [if_neg c4] at H
          have c4b0 : decide (x5_1 < (l0.length : Int)) = false := decide_eq_false c4
          clear c4
          obtain rfl := Option.some.inj H
          go_wp2
          repeat (go_quiet (fail); try go_wp2)
          go_ret
          exact ⟨by first | rfl | (simp; done) | (simp [*]; done) | (simp; exact (by intro a b; cases a <;> cases b <;> rfl : ∀ a b : Bool, (a == b) = (!(a != b))) _ _), by repeat (first | exact Drawn0.refl _ | apply Drawn0.step)⟩
  · rw [if_neg c3] at H
    have c3b0 : ((l0.length : Int) == (l1.length : Int)) = false := beq_eq_false_iff_ne.mpr c3
    have c3b1 : ((l0.length : Int) != (l1.length : Int)) = true := bne_iff_ne.mpr c3
    have c3b2 : (l0.length == l1.length) = false := by first | simpa using c3 | (simp at c3 ⊢; omega)
    obtain rfl := Option.some.inj H
    go_enter Try.func12, Try.ntmps12
    go_wp2
    repeat (go_quiet (fail); try go_wp2)
    go_ret
    exact ⟨by first | rfl | (simp; done) | (simp [*]; done) | (simp; exact (by intro a b; cases a <;> cases b <;> rfl : ∀ a b : Bool, (a == b) = (!(a != b))) _ _), by repeat (first | exact Drawn0.refl _ | apply Drawn0.step)⟩

/-! ### admit_Filter: function 13 -/
def admit_Filter.l0 : Nat → List Int → Bool → Bool → List (S26) → List (S26) → Int → Int → Option ((List (S26)))
  | 0, _, _, _, _, _, _, _ => none
  | k + 1, x0, x2, x3, x9, x12, x13, x14 => if x14 < x13 then (if 0 ≤ x14 then (if x14 < (x12.length : Int) then ((admit_May.f x0 ((rd_T26 x12 x14).f0) ((rd_T26 x12 x14).f1) x2 x3).bind fun t107 => (if t107 = true then (if x9.length < 8796093022208 then (admit_Filter.l0 k x0 x2 x3 (x9 ++ [(⟨(rd_T26 x12 x14).f0, (rd_T26 x12 x14).f1⟩ : S26)]) x12 x13 (wrap64 (x14 + 1))) else (none)) else (admit_Filter.l0 k x0 x2 x3 x9 x12 x13 (wrap64 (x14 + 1))))) else (none)) else (none)) else (some x9)
def admit_Filter.f (k : Nat) (l0 : List Int) (l1 : List (S26)) (a2 : Bool) (a3 : Bool) : Option ((List (S26))) := admit_Filter.l0 k l0 a2 a3 ([] : List (S26)) l1 (l1.length : Int) 0
theorem admit_Filter.mono_l : ∀ k, (∀ y0 y1 y2 y3 y4 y5 y6, LeO (admit_Filter.l0 k y0 y1 y2 y3 y4 y5 y6) (admit_Filter.l0 (k + 1) y0 y1 y2 y3 y4 y5 y6))
  | 0 => fun _ _ _ _ _ _ _ r h => by simp [admit_Filter.l0] at h
  | k + 1 => by
    have ih0 := admit_Filter.mono_l k
    · intro y0 y1 y2 y3 y4 y5 y6
      unfold admit_Filter.l0
      repeat' first
      | (with_reducible exact ih0 _ _ _ _ _ _ _)
      | (with_reducible exact LeO.refl _)
      | (with_reducible exact LeO.none _)
      | (with_reducible refine LeO.ite ?_ ?_)
      | (with_reducible refine LeO.bind ?_ (fun _ => ?_))
      | exact ih0 _ _ _ _ _ _ _
      | exact LeO.none _
      | refine LeO.ite ?_ ?_
      | refine LeO.bind ?_ (fun _ => ?_)
theorem admit_Filter.mono : ∀ a0 a1 a2 a3 k, LeO (admit_Filter.f k a0 a1 a2 a3) (admit_Filter.f (k + 1) a0 a1 a2 a3) := by
  intro a0 a1 a2 a3 k
  have ih0 := admit_Filter.mono_l k
  unfold admit_Filter.f
  repeat' first
      | (with_reducible exact ih0 _ _ _ _ _ _ _)
      | (with_reducible exact LeO.refl _)
      | (with_reducible exact LeO.none _)
      | (with_reducible refine LeO.ite ?_ ?_)
      | (with_reducible refine LeO.bind ?_ (fun _ => ?_))
      | exact ih0 _ _ _ _ _ _ _
      | exact LeO.none _
      | refine LeO.ite ?_ ?_
      | refine LeO.bind ?_ (fun _ => ?_)
set_option maxHeartbeats 8000000 in
set_option maxRecDepth 100000 in
theorem admit_Filter.calls (k : Nat) (A0 : Option Addr) (c0 : Nat) (l0 : List Int) (A1 : Option Addr) (c1 : Nat) (l1 : List (S26)) (a2 : Bool) (a3 : Bool) (r : List (S26)) (w : World) (hr0 : Kd.C (Kd.int .u8) w A0 l0.length l0) (hc0 : l0.length ≤ c0) (hr1 : Kd.C k26 w A1 l1.length l1) (hc1 : l1.length ≤ c1) (h : admit_Filter.f k l0 l1 a2 a3 = some r) :
    Calls Try.prog 13 #[.slice A0 l0.length c0, .slice A1 l1.length c1, .bool a2, .bool a3] w fun e w' => ∃ v0_ : Value, e = .returned (v0_) ∧ Kd.R k26 26 w' w.heap.size (fun _ => True) v0_ r ∧ Below w.heap.size w w' := by
  have hu26 := Try.underlying26
  have HR0 := Aside0.mk hr0
  have HC0 := Aside0.mk hc0
  clear hr0 hc0
  have HR1 := Aside0.mk hr1
  have HC1 := Aside0.mk hc1
  clear hr1 hc1
  have HB := Aside0.mk (Below.refl w.heap.size w)
  have H : (admit_Filter.l0 k l0 a2 a3 ([] : List (S26)) l1 (l1.length : Int) 0) = some r := h
  clear h
  have H' := Aside0.mk H
  clear H
  go_enter Try.func13, Try.ntmps13
  go_wp2
  go_loopg [9, 14] k (fun kq v9 v14 w' => ∃ (x9_1 : List (S26)) (x14_1 : Int), v14 = .int .i64 x14_1 ∧ Aside0 (admit_Filter.l0 kq l0 a2 a3 x9_1 l1 (l1.length : Int) x14_1 = some r) ∧ Aside0 (kq ≤ k) ∧ Aside0 (Kd.R k26 26 w' w.heap.size (fun _ => True) v9 x9_1) ∧ Aside0 (Below w.heap.size w w'))
  case atStart => exact ⟨(([] : List (S26))), (0), (by first | rfl | (simp; done) | (simp [*]; done) | (simp; exact (by intro a b; cases a <;> cases b <;> rfl : ∀ a b : Bool, (a == b) = (!(a != b))) _ _)), H', ⟨Nat.le_refl _⟩, ⟨by first | exact Kd.R_nil _ _ _ _ _ | exact Kd.N_nil _ _ _ _ _ | exact Kd.V_nil _ _ _ _ _ | exact Kd.Q_nil _ _ _ _ _ | exact Kd.S_nil _ _ _ _ _⟩, ⟨by repeat (first | (with_reducible first | exact HB.out | apply below_alloc | apply pw_below_drewN | apply below_drew1) | exact HB.out)⟩⟩
  case round =>
    clear H'
    try clear c1
    try clear p2
    obtain ⟨x9_1, x14_1, rfl, HA, HK1, HO_9, HB⟩ := hrel
    cases gk with
    | zero => exact absurd HA.out (by simp [admit_Filter.l0])
    | succ k1 =>
      have H := HA.out
      clear HA
      simp only [admit_Filter.l0] at H
      by_cases c5 : x14_1 < (l1.length : Int)
      · rw [if_pos c5] at H
        have c5b0 : decide (x14_1 < (l1.length : Int)) = true := decide_eq_true c5
        clear c5
        by_cases c6 : 0 ≤ x14_1
        · rw [if_pos c6] at H
          have c6b0 : decide (0 ≤ x14_1) = true := decide_eq_true c6
          clear c6
          by_cases c7 : x14_1 < (l1.length : Int)
          · rw [if_pos c7] at H
            have c7b0 : decide (x14_1 < (l1.length : Int)) = true := decide_eq_true c7
            clear c7
            replace H := Option.bind_eq_some_iff.mp H
            obtain ⟨t107, A80, H⟩ := H
            replace H : (if t107 = true then (if x9_1.length < 8796093022208 then (admit_Filter.l0 k1 l0 a2 a3 (x9_1 ++ [(⟨(rd_T26 l1 x14_1).f0, (rd_T26 l1 x14_1).f1⟩ : S26)]) l1 (l1.length : Int) (wrap64 (x14_1 + 1))) else (none)) else (admit_Filter.l0 k1 l0 a2 a3 x9_1 l1 (l1.length : Int) (wrap64 (x14_1 + 1)))) = some r := H
            have A8 := Aside0.mk A80
            clear A80
            by_cases c9 : t107 = true
            · subst c9
              have H1 : (if x9_1.length < 8796093022208 then (admit_Filter.l0 k1 l0 a2 a3 (x9_1 ++ [(⟨(rd_T26 l1 x14_1).f0, (rd_T26 l1 x14_1).f1⟩ : S26)]) l1 (l1.length : Int) (wrap64 (x14_1 + 1))) else (none)) = some r := by rw [if_pos rfl] at H; exact H
              clear H
              have H := H1
              clear H1
              by_cases c10 : x9_1.length < 8796093022208
              · rw [if_pos c10] at H
                have LMc10 := Aside0.mk c10
                clear c10
                obtain ⟨y108, hy108⟩ : ∃ y_ : List (S26), y_ = (x9_1 ++ [(⟨(rd_T26 l1 x14_1).f0, (rd_T26 l1 x14_1).f1⟩ : S26)]) := ⟨_, rfl⟩
                replace H : (admit_Filter.l0 k1 l0 a2 a3 y108 l1 (l1.length : Int) (wrap64 (x14_1 + 1))) = some r := by first | (rw [hy108]; with_reducible exact H) | (have H2_ := (Option.bind_some _ _).symm.trans H; rw [hy108]; with_reducible exact H2_) | (have H2_ := (Option.bind_some _ _).symm.trans H; with_reducible exact H2_) | with_reducible exact H | (rw [hy108]; exact H) | exact H
                have Ny108 := Aside0.mk hy108
                clear hy108
                have H' := Aside0.mk H
                clear H
                have p105 : 0 ≤ (x14_1 : Int) := of_decide_eq_true (by first | (with_reducible assumption) | assumption)
                have q105 : x14_1 < (l1.length : Int) := of_decide_eq_true (by first | (with_reducible assumption) | assumption)
                obtain ⟨ad105, e105, hx105_0, hx105_1⟩ := at_T26 HR1.out x14_1 p105 q105
                cases e105
                replace hx105_0 := (HB.out.cell (World.block_lt_of_cell? w _ hx105_0)).trans hx105_0
                replace hx105_1 := (HB.out.cell (World.block_lt_of_cell? w _ hx105_1)).trans hx105_1
                replace p105 := eq_true p105
                replace q105 := eq_true q105
                go_wp2_with (first | ((with_reducible refine gate_dst (N := 11) rfl ?_); refine box_event ?hg (N := 11) ?hd (cs := #[.int .i64 0, .int .i64 0]) (t := 26) ?hr ?_; (case hd => rfl); (case hg => rfl); (case hr => first | (go_simp; done) | (go_simp; rfl)); intro gb106 hg w11 hbox hb; have n0_ := Aside0.mk (Kd.R_below (Kd.R_elderB (by (with_reducible repeat (first | apply Kd.R_alloc | apply Kd.R_drewN | apply Kd.R_drew)); exact HO_9.out) gb106 (Nat.le_of_eq hg.symm)) hb); have n1_ := Aside0.mk (below_step (by repeat (first | (with_reducible first | exact HB.out | apply below_alloc | apply pw_below_drewN | apply below_drew1) | exact HB.out)) hb); have n2_ := Aside0.mk (hbox); have n3_ := Aside0.mk ((by rw [hg]; exact (below_size (by repeat (first | (with_reducible first | exact HB.out | apply below_alloc | apply pw_below_drewN | apply below_drew1) | exact HB.out))) : w.heap.size ≤ gb106)); have n4_ := Aside0.mk ((by rw [hg]; exact (below_size (by repeat (first | (with_reducible first | exact HB.out | apply below_alloc | apply pw_below_drewN | apply below_drew1) | exact HB.out))) : w.heap.size ≤ gb106)); clear HO_9; clear HB; have HO_9 := n0_; have HB := n1_; have BK106 := n2_; have GW106 := n3_; have GE106 := n4_; clear n0_ n1_ n2_ n3_ n4_; clear hb hbox hg; have hcz12_0 : w11.cell? ⟨gb106, 0, none⟩ = some (.int .i64 0) := (blk_cell BK106.out 0).trans rfl; have hcz12_1 : w11.cell? ⟨gb106, 1, none⟩ = some (.int .i64 0) := (blk_cell BK106.out 1).trans rfl; have hfz12_0 := blk_frozen BK106.out 0; have hfz12_1 := blk_frozen BK106.out 1) | ((with_reducible refine gate_callee (f := 9) rfl ?_); refine goesL_ (some 22) rfl rfl Try.func9 (by kernel_rfl) rfl #[.slice A0 l0.length c0, .agg #[.int .i64 ((rd_T26 l1 x14_1).f0), .int .i64 ((rd_T26 l1 x14_1).f1)], .bool a2, .bool a3] rfl (by (try simp only [List.map_toArray, List.map_cons, List.map_nil]); first | done | rfl | (simp only [List.length_drop, List.length_take]; rfl)) ?_; (with_reducible refine (admit_May.calls _ _ l0 ((rd_T26 l1 x14_1).f0) ((rd_T26 l1 x14_1).f1) a2 a3 true _ ?side1 ?side2 A8.out).mono ?_); (case side1 => exact Kd.C_below HR0.out (by repeat (first | (with_reducible first | exact HB.out | apply below_alloc | apply pw_below_drewN | apply below_drew1 | refine below_set ?_ GE106.out) | exact HB.out))); (case side2 => exact HC0.out); rintro e w13 ⟨rfl, hb⟩; refine ⟨_, rfl, ?_⟩; have n0_ := Aside0.mk (Kd.R_below (by (with_reducible repeat (first | apply Kd.R_alloc | apply Kd.R_drewN | apply Kd.R_drew)); exact (Kd.R_mono (Kd.R_far (p := ⟨gb106, 1, none⟩) (Kd.R_far (p := ⟨gb106, 0, none⟩) (Kd.R_mono HO_9.out (fun k_ hk => (⟨hk, hk.2⟩ : _ ∧ k_ ≠ gb106))) (fun _ hk => hk.2) (.int .i64 ((rd_T26 l1 x14_1).f0))) (fun _ hk => hk.2) (.int .i64 ((rd_T26 l1 x14_1).f1))) (fun _ h_ => h_.1))) hb); have n1_ := Aside0.mk (blk_below (g := gb106) (o := .cells #[.int .i64 ((rd_T26 l1 x14_1).f0), .int .i64 ((rd_T26 l1 x14_1).f1)] 26 (0, 0)) (by (with_reducible repeat (first | refine blk_drewN ?_ _ | refine blk_drew ?_ | refine blk_alloc ?_ _)); refine blk_put (cs := #[.int .i64 ((rd_T26 l1 x14_1).f0), .int .i64 0]) ?_ 1 _ rfl; (with_reducible repeat (first | refine blk_drewN ?_ _ | refine blk_drew ?_ | refine blk_alloc ?_ _)); refine blk_put (cs := #[.int .i64 0, .int .i64 0]) ?_ 0 _ rfl; (with_reducible repeat (first | refine blk_drewN ?_ _ | refine blk_drew ?_ | refine blk_alloc ?_ _)); exact BK106.out) hb); have n2_ := Aside0.mk (below_step (by repeat (first | (with_reducible first | exact HB.out | apply below_alloc | apply pw_below_drewN | apply below_drew1 | refine below_set ?_ GE106.out) | exact HB.out)) hb); clear HO_9; clear BK106; clear HB; have HO_9 := n0_; have BK106 := n1_; have HB := n2_; clear n0_ n1_ n2_; (try clear hb); (try clear hb2); (try clear hk); (try clear hi); have hcz14_0 : w13.cell? ⟨gb106, 0, none⟩ = some (.int .i64 ((rd_T26 l1 x14_1).f0)) := (blk_cell BK106.out 0).trans rfl; have hcz14_1 : w13.cell? ⟨gb106, 1, none⟩ = some (.int .i64 ((rd_T26 l1 x14_1).f1)) := (blk_cell BK106.out 1).trans rfl; have hfz14_0 := blk_frozen BK106.out 0; have hfz14_1 := blk_frozen BK106.out 1) | ((with_reducible refine gate_builtin (b := .append) (xs := #[.tmp 23, .tmp 25]) rfl ?_); at_builtin; refine Kd.R_append k26 (w0 := w) w.heap.size rfl (.tmp 23) (.tmp 25) 32 26 (.agg #[(.int .i64 0), (.int .i64 0)]) 16 rfl Try.underlying32 info26 rfl (by decide) (by omega) u9 x9_1 (⟨(rd_T26 l1 x14_1).f0, (rd_T26 l1 x14_1).f1⟩ : S26) [.int .i64 ((rd_T26 l1 x14_1).f0), .int .i64 ((rd_T26 l1 x14_1).f1)] (fun k_ => k_ ≠ gb106) (fun _ => False) rfl rfl ?aP (fun _ hk => hk.elim) ?aF ?aO ?aB ?aS ?aL ?_; (case aP => exact k26_mkM _ _ _ (⟨(rd_T26 l1 x14_1).f0, (rd_T26 l1 x14_1).f1⟩ : S26)); (case aB => exact (by repeat (first | (with_reducible first | exact HB.out | apply below_alloc | apply pw_below_drewN | apply below_drew1 | refine below_set ?_ GE106.out) | exact HB.out))); (case aF => exact (fun k_ hk => Kd.freshB (g := gb106) (o := .cells #[.int .i64 ((rd_T26 l1 x14_1).f0), .int .i64 ((rd_T26 l1 x14_1).f1)] 26 (0, 0)) (by (with_reducible repeat (first | refine blk_drewN ?_ _ | refine blk_drew ?_ | refine blk_alloc ?_ _)); exact BK106.out) k_ hk)); (case aO => exact (by (with_reducible repeat (first | apply Kd.R_alloc | apply Kd.R_drewN | apply Kd.R_drew)); exact Kd.R_mono HO_9.out (fun _ hk => by first | exact hk.2 | trivial))); (case aS => exact (below_size (by repeat (first | (with_reducible first | exact HB.out | apply below_alloc | apply pw_below_drewN | apply below_drew1 | refine below_set ?_ GE106.out) | exact HB.out)))); (case aL => have := LMc10.out; omega); intro v109 w15 ho hb hg hat; rw [← Ny108.out] at ho; have n0_ := Aside0.mk (blk_grown (g := gb106) (o := .cells #[.int .i64 ((rd_T26 l1 x14_1).f0), .int .i64 ((rd_T26 l1 x14_1).f1)] 26 (0, 0)) (by (with_reducible repeat (first | refine blk_drewN ?_ _ | refine blk_drew ?_ | refine blk_alloc ?_ _)); exact BK106.out) hg (Kd.R_away HO_9.out (fun _ hk => hk.2))); have n1_ := Aside0.mk (hb); have n2_ := Aside0.mk (ho); clear BK106; clear HB; clear HO_9; have BK106 := n0_; have HB := n1_; have HO110 := n2_; clear n0_ n1_ n2_; clear ho hb hg hat))
                go_roundg k1
                case measure => have := HK1.out; omega
                case rel => exact ⟨(y108), (wrap64 (x14_1 + 1)), (by first | rfl | (simp; done) | (simp [*]; done) | (simp; exact (by intro a b; cases a <;> cases b <;> rfl : ∀ a b : Bool, (a == b) = (!(a != b))) _ _)), H', ⟨by have := HK1.out; omega⟩, ⟨by (with_reducible repeat (first | apply Kd.R_alloc | apply Kd.R_drewN | apply Kd.R_drew)); exact Kd.R_mono HO110.out (fun _ hk => trivial)⟩, ⟨by repeat (first | (with_reducible first | exact HB.out | apply below_alloc | apply pw_below_drewN | apply below_drew1 | refine below_set ?_ GE106.out) | exact HB.out)⟩⟩
              · rw [if_neg c10] at H
                exact absurd H (by simp)
            · replace c9 := Bool.eq_false_iff.mpr c9
              subst c9
              have H1 : (admit_Filter.l0 k1 l0 a2 a3 x9_1 l1 (l1.length : Int) (wrap64 (x14_1 + 1))) = some r := by rw [if_neg (show ¬ (false = true) by decide)] at H; exact H
              clear H
              have H := H1
              clear H1
              have H' := Aside0.mk H
              clear H
              have p105 : 0 ≤ (x14_1 : Int) := of_decide_eq_true (by first | (with_reducible assumption) | assumption)
              have q105 : x14_1 < (l1.length : Int) := of_decide_eq_true (by first | (with_reducible assumption) | assumption)
              obtain ⟨ad105, e105, hx105_0, hx105_1⟩ := at_T26 HR1.out x14_1 p105 q105
              cases e105
              replace hx105_0 := (HB.out.cell (World.block_lt_of_cell? w _ hx105_0)).trans hx105_0
              replace hx105_1 := (HB.out.cell (World.block_lt_of_cell? w _ hx105_1)).trans hx105_1
              replace p105 := eq_true p105
              replace q105 := eq_true q105
              go_wp2_with (first | ((with_reducible refine gate_dst (N := 11) rfl ?_); refine box_event ?hg (N := 11) ?hd (cs := #[.int .i64 0, .int .i64 0]) (t := 26) ?hr ?_; (case hd => rfl); (case hg => rfl); (case hr => first | (go_simp; done) | (go_simp; rfl)); intro gb106 hg w16 hbox hb; have n0_ := Aside0.mk (Kd.R_below (Kd.R_elderB (by (with_reducible repeat (first | apply Kd.R_alloc | apply Kd.R_drewN | apply Kd.R_drew)); exact HO_9.out) gb106 (Nat.le_of_eq hg.symm)) hb); have n1_ := Aside0.mk (below_step (by repeat (first | (with_reducible first | exact HB.out | apply below_alloc | apply pw_below_drewN | apply below_drew1) | exact HB.out)) hb); have n2_ := Aside0.mk (hbox); have n3_ := Aside0.mk ((by rw [hg]; exact (below_size (by repeat (first | (with_reducible first | exact HB.out | apply below_alloc | apply pw_below_drewN | apply below_drew1) | exact HB.out))) : w.heap.size ≤ gb106)); have n4_ := Aside0.mk ((by rw [hg]; exact (below_size (by repeat (first | (with_reducible first | exact HB.out | apply below_alloc | apply pw_below_drewN | apply below_drew1) | exact HB.out))) : w.heap.size ≤ gb106)); clear HO_9; clear HB; have HO_9 := n0_; have HB := n1_; have BK106 := n2_; have GW106 := n3_; have GE106 := n4_; clear n0_ n1_ n2_ n3_ n4_; clear hb hbox hg; have hcz17_0 : w16.cell? ⟨gb106, 0, none⟩ = some (.int .i64 0) := (blk_cell BK106.out 0).trans rfl; have hcz17_1 : w16.cell? ⟨gb106, 1, none⟩ = some (.int .i64 0) := (blk_cell BK106.out 1).trans rfl; have hfz17_0 := blk_frozen BK106.out 0; have hfz17_1 := blk_frozen BK106.out 1) | ((with_reducible refine gate_callee (f := 9) rfl ?_); refine goesL_ (some 22) rfl rfl Try.func9 (by kernel_rfl) rfl #[.slice A0 l0.length c0, .agg #[.int .i64 ((rd_T26 l1 x14_1).f0), .int .i64 ((rd_T26 l1 x14_1).f1)], .bool a2, .bool a3] rfl (by (try simp only [List.map_toArray, List.map_cons, List.map_nil]); first | done | rfl | (simp only [List.length_drop, List.length_take]; rfl)) ?_; (with_reducible refine (admit_May.calls _ _ l0 ((rd_T26 l1 x14_1).f0) ((rd_T26 l1 x14_1).f1) a2 a3 false _ ?side1 ?side2 A8.out).mono ?_); (case side1 => exact Kd.C_below HR0.out (by repeat (first | (with_reducible first | exact HB.out | apply below_alloc | apply pw_below_drewN | apply below_drew1 | refine below_set ?_ GE106.out) | exact HB.out))); (case side2 => exact HC0.out); rintro e w18 ⟨rfl, hb⟩; refine ⟨_, rfl, ?_⟩; have n0_ := Aside0.mk (Kd.R_below (by (with_reducible repeat (first | apply Kd.R_alloc | apply Kd.R_drewN | apply Kd.R_drew)); exact (Kd.R_mono (Kd.R_far (p := ⟨gb106, 1, none⟩) (Kd.R_far (p := ⟨gb106, 0, none⟩) (Kd.R_mono HO_9.out (fun k_ hk => (⟨hk, hk.2⟩ : _ ∧ k_ ≠ gb106))) (fun _ hk => hk.2) (.int .i64 ((rd_T26 l1 x14_1).f0))) (fun _ hk => hk.2) (.int .i64 ((rd_T26 l1 x14_1).f1))) (fun _ h_ => h_.1))) hb); have n1_ := Aside0.mk (blk_below (g := gb106) (o := .cells #[.int .i64 ((rd_T26 l1 x14_1).f0), .int .i64 ((rd_T26 l1 x14_1).f1)] 26 (0, 0)) (by (with_reducible repeat (first | refine blk_drewN ?_ _ | refine blk_drew ?_ | refine blk_alloc ?_ _)); refine blk_put (cs := #[.int .i64 ((rd_T26 l1 x14_1).f0), .int .i64 0]) ?_ 1 _ rfl; (with_reducible repeat (first | refine blk_drewN ?_ _ | refine blk_drew ?_ | refine blk_alloc ?_ _)); refine blk_put (cs := #[.int .i64 0, .int .i64 0]) ?_ 0 _ rfl; (with_reducible repeat (first | refine blk_drewN ?_ _ | refine blk_drew ?_ | refine blk_alloc ?_ _)); exact BK106.out) hb); have n2_ := Aside0.mk (below_step (by repeat (first | (with_reducible first | exact HB.out | apply below_alloc | apply pw_below_drewN | apply below_drew1 | refine below_set ?_ GE106.out) | exact HB.out)) hb); clear HO_9; clear BK106; clear HB; have HO_9 := n0_; have BK106 := n1_; have HB := n2_; clear n0_ n1_ n2_; (try clear hb); (try clear hb2); (try clear hk); (try clear hi)))
              go_roundg k1
              case measure => have := HK1.out; omega
              case rel => exact ⟨(x9_1), (wrap64 (x14_1 + 1)), (by first | rfl | (simp; done) | (simp [*]; done) | (simp; exact (by intro a b; cases a <;> cases b <;> rfl : ∀ a b : Bool, (a == b) = (!(a != b))) _ _)), H', ⟨by have := HK1.out; omega⟩, ⟨by (with_reducible repeat (first | apply Kd.R_alloc | apply Kd.R_drewN | apply Kd.R_drew)); exact Kd.R_mono HO_9.out (fun _ hk => trivial)⟩, ⟨by repeat (first | (with_reducible first | exact HB.out | apply below_alloc | apply pw_below_drewN | apply below_drew1 | refine below_set ?_ GE106.out) | exact HB.out)⟩⟩
          · rw [if_neg c7] at H
            exact absurd H (by simp)
        · rw [if_neg c6] at H
          exact absurd H (by simp)
      · rw [if_neg c5] at H
        have c5b0 : decide (x14_1 < (l1.length : Int)) = false := decide_eq_false c5
        clear c5
        obtain rfl := Option.some.inj H
        go_wp2
        go_ret
        exact ⟨_, by first | rfl | (simp [errW_none, errW_some] <;> rfl) | (simp [*, errW_none, errW_some] <;> rfl), by (with_reducible repeat (first | apply Kd.R_alloc | apply Kd.R_drewN | apply Kd.R_drew)); exact HO_9.out, by repeat (first | (with_reducible first | exact HB.out | apply below_alloc | apply pw_below_drewN | apply below_drew1) | exact HB.out)⟩

/-! ### seineref01_Byte: function 25 -/
def seineref01_Byte.f (a0 : Int) : Option (Int) := if a0 ≥ 65 then (if a0 ≤ 90 then (some ((a0 + 32) % 256)) else (some a0)) else (some a0)
set_option maxHeartbeats 8000000 in
set_option maxRecDepth 100000 in
theorem seineref01_Byte.calls (a0 : Int) (r : Int) (w : World) (h : seineref01_Byte.f a0 = some r) :
    Calls Try.prog 25 #[.int .u8 a0] w fun e w' => e = .returned (.int .u8 r) ∧ Drawn0 w w' := by
  have H : (if a0 ≥ 65 then (if a0 ≤ 90 then (some ((a0 + 32) % 256)) else (some a0)) else (some a0)) = some r := h
  clear h
  by_cases c2 : a0 ≥ 65
  · rw [if_pos c2] at H
    have c2b0 : decide (65 ≤ a0) = true := decide_eq_true c2
    clear c2
    by_cases c3 : a0 ≤ 90
    · rw [if_pos c3] at H
      have c3b0 : decide (a0 ≤ 90) = true := decide_eq_true c3
      clear c3
      obtain rfl := Option.some.inj H
      go_enter Try.func25, Try.ntmps25
      go_wp2
      go_ret
      exact ⟨by first | rfl | (simp; done) | (simp [*]; done) | (simp; exact (by intro a b; cases a <;> cases b <;> rfl : ∀ a b : Bool, (a == b) = (!(a != b))) _ _), by repeat (first | exact Drawn0.refl _ | apply Drawn0.step)⟩
    · rw [if_neg c3] at H
      have c3b0 : decide (a0 ≤ 90) = false := decide_eq_false c3
      clear c3
      obtain rfl := Option.some.inj H
      go_enter Try.func25, Try.ntmps25
      go_wp2
      go_ret
      exact ⟨by first | rfl | (simp; done) | (simp [*]; done) | (simp; exact (by intro a b; cases a <;> cases b <;> rfl : ∀ a b : Bool, (a == b) = (!(a != b))) _ _), by repeat (first | exact Drawn0.refl _ | apply Drawn0.step)⟩
  · rw [if_neg c2] at H
    have c2b0 : decide (65 ≤ a0) = false := decide_eq_false c2
    clear c2
    obtain rfl := Option.some.inj H
    go_enter Try.func25, Try.ntmps25
    go_wp2
    go_ret
    exact ⟨by first | rfl | (simp; done) | (simp [*]; done) | (simp; exact (by intro a b; cases a <;> cases b <;> rfl : ∀ a b : Bool, (a == b) = (!(a != b))) _ _), by repeat (first | exact Drawn0.refl _ | apply Drawn0.step)⟩

end Go.Proofs.Ytfcolpemkbpgnaa.PAdmitFold
