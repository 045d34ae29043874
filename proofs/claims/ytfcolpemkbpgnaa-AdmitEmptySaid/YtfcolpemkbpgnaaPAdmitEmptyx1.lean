/- Functions of the translation and what they come to: laid by a program of this session (xprint.py) beside contracts proved by hand. No condition. -/
import Derived.Test.YtfcolpemkbpgnaaPAdmitEmptyx0
namespace Go.Proofs.Ytfcolpemkbpgnaa.PAdmitEmpty
open Go.RowKit Go.Proofs.YtfcolpemkbpgnaaW.PrintWords Go.Proofs.YtfcolpemkbpgnaaW.PrintLast Go.Proofs.YtfcolpemkbpgnaaW.PrintMore
attribute [local go_sem] max2_int min2_int max_two min_two max_three min_three max_four min_four   -- for this text's walks alone
set_option linter.unusedVariables false
set_option linter.unusedSimpArgs false

/-! ### admit_piece: function 22 -/
def admit_piece.f (l0 : List Int) (a1_0 : Int) (a1_1 : Int) : Option (Bool) := if a1_0 ≥ 0 then (if a1_0 ≤ a1_1 then (some (decide (a1_1 ≤ (l0.length : Int)))) else (some false)) else (some false)
set_option maxHeartbeats 8000000 in
set_option maxRecDepth 100000 in
theorem admit_piece.calls (A0 : Option Addr) (c0 : Nat) (l0 : List Int) (a1_0 : Int) (a1_1 : Int) (r : Bool) (w : World) (hr0 : Kd.C (Kd.int .u8) w A0 l0.length l0) (hc0 : l0.length ≤ c0) (h : admit_piece.f l0 a1_0 a1_1 = some r) :
    Calls Try.prog 22 #[.slice A0 l0.length c0, .agg #[.int .i64 a1_0, .int .i64 a1_1]] w fun e w' => e = .returned (.bool r) ∧ Below w.heap.size w w' := by
  have hu26 := Try.underlying26
  have HR0 := Aside0.mk hr0
  have HC0 := Aside0.mk hc0
  clear hr0 hc0
  have HB := Aside0.mk (Below.refl w.heap.size w)
  have H : (if a1_0 ≥ 0 then (if a1_0 ≤ a1_1 then (some (decide (a1_1 ≤ (l0.length : Int)))) else (some false)) else (some false)) = some r := h
  clear h
  by_cases c3 : a1_0 ≥ 0
  · rw [if_pos c3] at H
    have c3b0 : decide (0 ≤ a1_0) = true := decide_eq_true c3
    clear c3
    by_cases c4 : a1_0 ≤ a1_1
    · rw [if_pos c4] at H
      have c4b0 : decide (a1_0 ≤ a1_1) = true := decide_eq_true c4
      clear c4
      obtain rfl := Option.some.inj H
      go_enter Try.func22, Try.ntmps22
      go_wp2_with (first | ((with_reducible refine gate_dst (N := 3) rfl ?_); (try (refine gate_guard (by rfl) ?_; dsimp only)); refine box_event ?hg (N := 3) ?hd (cs := #[.int .i64 a1_0, .int .i64 a1_1]) (t := 26) ?hr ?_; (case hd => rfl); (case hg => rfl); (case hr => first | (go_simp; done) | (go_simp; rfl)); intro gb101 hg w5 hbox hb; have n0_ := Aside0.mk (below_step (by repeat (first | (with_reducible first | exact HB.out | apply below_alloc | apply pw_below_drewN | apply below_drew1) | exact HB.out)) hb); have n1_ := Aside0.mk (hbox); have n2_ := Aside0.mk ((by rw [hg]; exact (below_size (by repeat (first | (with_reducible first | exact HB.out | apply below_alloc | apply pw_below_drewN | apply below_drew1) | exact HB.out))) : w.heap.size ≤ gb101)); have n3_ := Aside0.mk ((by rw [hg]; exact (below_size (by repeat (first | (with_reducible first | exact HB.out | apply below_alloc | apply pw_below_drewN | apply below_drew1) | exact HB.out))) : w.heap.size ≤ gb101)); clear HB; have HB := n0_; have BK101 := n1_; have GW101 := n2_; have GE101 := n3_; clear n0_ n1_ n2_ n3_; clear hb hbox hg; have hcz6_0 : w5.cell? ⟨gb101, 0, none⟩ = some (.int .i64 a1_0) := (blk_cell BK101.out 0).trans rfl; have hcz6_1 : w5.cell? ⟨gb101, 1, none⟩ = some (.int .i64 a1_1) := (blk_cell BK101.out 1).trans rfl; have hfz6_0 := blk_frozen BK101.out 0; have hfz6_1 := blk_frozen BK101.out 1))
      go_ret
      exact ⟨by first | rfl | (simp [errW_none, errW_some] <;> rfl) | (simp [*, errW_none, errW_some] <;> rfl), by repeat (first | (with_reducible first | exact HB.out | apply below_alloc | apply pw_below_drewN | apply below_drew1 | refine below_set ?_ GE101.out) | exact HB.out)⟩
    · rw [if_neg c4] at H
      have c4b0 : decide (a1_0 ≤ a1_1) = false := decide_eq_false c4
      clear c4
      obtain rfl := Option.some.inj H
      go_enter Try.func22, Try.ntmps22
      go_wp2_with (first | ((with_reducible refine gate_dst (N := 3) rfl ?_); (try (refine gate_guard (by rfl) ?_; dsimp only)); refine box_event ?hg (N := 3) ?hd (cs := #[.int .i64 a1_0, .int .i64 a1_1]) (t := 26) ?hr ?_; (case hd => rfl); (case hg => rfl); (case hr => first | (go_simp; done) | (go_simp; rfl)); intro gb101 hg w7 hbox hb; have n0_ := Aside0.mk (below_step (by repeat (first | (with_reducible first | exact HB.out | apply below_alloc | apply pw_below_drewN | apply below_drew1) | exact HB.out)) hb); have n1_ := Aside0.mk (hbox); have n2_ := Aside0.mk ((by rw [hg]; exact (below_size (by repeat (first | (with_reducible first | exact HB.out | apply below_alloc | apply pw_below_drewN | apply below_drew1) | exact HB.out))) : w.heap.size ≤ gb101)); have n3_ := Aside0.mk ((by rw [hg]; exact (below_size (by repeat (first | (with_reducible first | exact HB.out | apply below_alloc | apply pw_below_drewN | apply below_drew1) | exact HB.out))) : w.heap.size ≤ gb101)); clear HB; have HB := n0_; have BK101 := n1_; have GW101 := n2_; have GE101 := n3_; clear n0_ n1_ n2_ n3_; clear hb hbox hg; have hcz8_0 : w7.cell? ⟨gb101, 0, none⟩ = some (.int .i64 a1_0) := (blk_cell BK101.out 0).trans rfl; have hcz8_1 : w7.cell? ⟨gb101, 1, none⟩ = some (.int .i64 a1_1) := (blk_cell BK101.out 1).trans rfl; have hfz8_0 := blk_frozen BK101.out 0; have hfz8_1 := blk_frozen BK101.out 1))
      go_ret
      exact ⟨by first | rfl | (simp [errW_none, errW_some] <;> rfl) | (simp [*, errW_none, errW_some] <;> rfl), by repeat (first | (with_reducible first | exact HB.out | apply below_alloc | apply pw_below_drewN | apply below_drew1 | refine below_set ?_ GE101.out) | exact HB.out)⟩
  · rw [if_neg c3] at H
    have c3b0 : decide (0 ≤ a1_0) = false := decide_eq_false c3
    clear c3
    obtain rfl := Option.some.inj H
    go_enter Try.func22, Try.ntmps22
    go_wp2_with (first | ((with_reducible refine gate_dst (N := 3) rfl ?_); (try (refine gate_guard (by rfl) ?_; dsimp only)); refine box_event ?hg (N := 3) ?hd (cs := #[.int .i64 a1_0, .int .i64 a1_1]) (t := 26) ?hr ?_; (case hd => rfl); (case hg => rfl); (case hr => first | (go_simp; done) | (go_simp; rfl)); intro gb101 hg w9 hbox hb; have n0_ := Aside0.mk (below_step (by repeat (first | (with_reducible first | exact HB.out | apply below_alloc | apply pw_below_drewN | apply below_drew1) | exact HB.out)) hb); have n1_ := Aside0.mk (hbox); have n2_ := Aside0.mk ((by rw [hg]; exact (below_size (by repeat (first | (with_reducible first | exact HB.out | apply below_alloc | apply pw_below_drewN | apply below_drew1) | exact HB.out))) : w.heap.size ≤ gb101)); have n3_ := Aside0.mk ((by rw [hg]; exact (below_size (by repeat (first | (with_reducible first | exact HB.out | apply below_alloc | apply pw_below_drewN | apply below_drew1) | exact HB.out))) : w.heap.size ≤ gb101)); clear HB; have HB := n0_; have BK101 := n1_; have GW101 := n2_; have GE101 := n3_; clear n0_ n1_ n2_ n3_; clear hb hbox hg; have hcz10_0 : w9.cell? ⟨gb101, 0, none⟩ = some (.int .i64 a1_0) := (blk_cell BK101.out 0).trans rfl; have hcz10_1 : w9.cell? ⟨gb101, 1, none⟩ = some (.int .i64 a1_1) := (blk_cell BK101.out 1).trans rfl; have hfz10_0 := blk_frozen BK101.out 0; have hfz10_1 := blk_frozen BK101.out 1))
    go_ret
    exact ⟨by first | rfl | (simp [errW_none, errW_some] <;> rfl) | (simp [*, errW_none, errW_some] <;> rfl), by repeat (first | (with_reducible first | exact HB.out | apply below_alloc | apply pw_below_drewN | apply below_drew1 | refine below_set ?_ GE101.out) | exact HB.out)⟩

/-! ### fold_Byte: function 34 -/
def fold_Byte.f (a0 : Int) : Option (Int) := if 65 ≤ a0 then (if a0 ≤ 90 then (some ((((a0 + 97) % 256) - 65) % 256)) else (some a0)) else (some a0)
set_option maxHeartbeats 8000000 in
set_option maxRecDepth 100000 in
theorem fold_Byte.calls (a0 : Int) (r : Int) (w : World) (h : fold_Byte.f a0 = some r) :
    Calls Try.prog 34 #[.int .u8 a0] w fun e w' => e = .returned (.int .u8 r) ∧ Drawn0 w w' := by
  have H : (if 65 ≤ a0 then (if a0 ≤ 90 then (some ((((a0 + 97) % 256) - 65) % 256)) else (some a0)) else (some a0)) = some r := h
  clear h
  by_cases c2 : 65 ≤ a0
  · rw [if_pos c2] at H
    have c2b0 : decide (65 ≤ a0) = true := decide_eq_true c2
    clear c2
    by_cases c3 : a0 ≤ 90
    · rw [if_pos c3] at H
      have c3b0 : decide (a0 ≤ 90) = true := decide_eq_true c3
      clear c3
      obtain rfl := Option.some.inj H
      go_enter Try.func34, Try.ntmps34
      go_wp2
      go_ret
      exact ⟨by first | rfl | (simp; done) | (simp [*]; done), by repeat (first | exact Drawn0.refl _ | apply Drawn0.step)⟩
    · rw [if_neg c3] at H
      have c3b0 : decide (a0 ≤ 90) = false := decide_eq_false c3
      clear c3
      obtain rfl := Option.some.inj H
      go_enter Try.func34, Try.ntmps34
      go_wp2
      go_ret
      exact ⟨by first | rfl | (simp; done) | (simp [*]; done), by repeat (first | exact Drawn0.refl _ | apply Drawn0.step)⟩
  · rw [if_neg c2] at H
    have c2b0 : decide (65 ≤ a0) = false := decide_eq_false c2
    clear c2
    obtain rfl := Option.some.inj H
    go_enter Try.func34, Try.ntmps34
    go_wp2
    go_ret
    exact ⟨by first | rfl | (simp; done) | (simp [*]; done), by repeat (first | exact Drawn0.refl _ | apply Drawn0.step)⟩

/-! ### fold_Word: function 24 -/
def fold_Word.f (a0 : Int) : Option (Bool) := (fold_Byte.f a0).bind fun t102 => (if 97 ≤ t102 then (if t102 ≤ 122 then (some true) else (if 48 ≤ t102 then (if t102 ≤ 57 then (some true) else (some (t102 == 95))) else (some (t102 == 95)))) else (if 48 ≤ t102 then (if t102 ≤ 57 then (some true) else (some (t102 == 95))) else (some (t102 == 95))))
set_option maxHeartbeats 8000000 in
set_option maxRecDepth 100000 in
theorem fold_Word.calls (a0 : Int) (r : Bool) (w : World) (h : fold_Word.f a0 = some r) :
    Calls Try.prog 24 #[.int .u8 a0] w fun e w' => e = .returned (.bool r) ∧ Drawn0 w w' := by
  have H : ((fold_Byte.f a0).bind fun t102 => (if 97 ≤ t102 then (if t102 ≤ 122 then (some true) else (if 48 ≤ t102 then (if t102 ≤ 57 then (some true) else (some (t102 == 95))) else (some (t102 == 95)))) else (if 48 ≤ t102 then (if t102 ≤ 57 then (some true) else (some (t102 == 95))) else (some (t102 == 95))))) = some r := h
  clear h
  replace H := Option.bind_eq_some_iff.mp H
  obtain ⟨t102, A20, H⟩ := H
  replace H : (if 97 ≤ t102 then (if t102 ≤ 122 then (some true) else (if 48 ≤ t102 then (if t102 ≤ 57 then (some true) else (some (t102 == 95))) else (some (t102 == 95)))) else (if 48 ≤ t102 then (if t102 ≤ 57 then (some true) else (some (t102 == 95))) else (some (t102 == 95)))) = some r := H
  have A2 := Aside0.mk A20
  clear A20
  by_cases c3 : 97 ≤ t102
  · rw [if_pos c3] at H
    have c3b0 : decide (97 ≤ t102) = true := decide_eq_true c3
    clear c3
    by_cases c4 : t102 ≤ 122
    · rw [if_pos c4] at H
      have c4b0 : decide (t102 ≤ 122) = true := decide_eq_true c4
      clear c4
      obtain rfl := Option.some.inj H
      go_enter Try.func24, Try.ntmps24
      go_wp2_with (first | ((with_reducible refine gate_callee (f := 34) rfl ?_); refine goesL_ (some 4) rfl rfl Try.func34 (by kernel_rfl) rfl #[.int .u8 a0] rfl (by (try simp only [List.map_toArray, List.map_cons, List.map_nil]); first | done | rfl | (simp only [List.length_drop, List.length_take]; rfl)) ?_; (with_reducible refine (fold_Byte.calls a0 t102 _ A2.out).mono ?_); rintro e w' ⟨rfl, ⟨nd, rfl⟩⟩; refine ⟨_, rfl, ?_⟩))
      go_ret
      exact ⟨by first | rfl | (simp; done) | (simp [*]; done), by repeat (first | exact Drawn0.refl _ | apply Drawn0.step)⟩
    · rw [if_neg c4] at H
      have c4b0 : decide (t102 ≤ 122) = false := decide_eq_false c4
      clear c4
      by_cases c5 : 48 ≤ t102
      · rw [if_pos c5] at H
        have c5b0 : decide (48 ≤ t102) = true := decide_eq_true c5
        clear c5
        by_cases c6 : t102 ≤ 57
        · rw [if_pos c6] at H
          have c6b0 : decide (t102 ≤ 57) = true := decide_eq_true c6
          clear c6
          obtain rfl := Option.some.inj H
          go_enter Try.func24, Try.ntmps24
          go_wp2_with (first | ((with_reducible refine gate_callee (f := 34) rfl ?_); refine goesL_ (some 4) rfl rfl Try.func34 (by kernel_rfl) rfl #[.int .u8 a0] rfl (by (try simp only [List.map_toArray, List.map_cons, List.map_nil]); first | done | rfl | (simp only [List.length_drop, List.length_take]; rfl)) ?_; (with_reducible refine (fold_Byte.calls a0 t102 _ A2.out).mono ?_); rintro e w' ⟨rfl, ⟨nd, rfl⟩⟩; refine ⟨_, rfl, ?_⟩))
          go_ret
          exact ⟨by first | rfl | (simp; done) | (simp [*]; done), by repeat (first | exact Drawn0.refl _ | apply Drawn0.step)⟩
        · rw [if_neg c6] at H
          have c6b0 : decide (t102 ≤ 57) = false := decide_eq_false c6
          clear c6
          obtain rfl := Option.some.inj H
          go_enter Try.func24, Try.ntmps24
          go_wp2_with (first | ((with_reducible refine gate_callee (f := 34) rfl ?_); refine goesL_ (some 4) rfl rfl Try.func34 (by kernel_rfl) rfl #[.int .u8 a0] rfl (by (try simp only [List.map_toArray, List.map_cons, List.map_nil]); first | done | rfl | (simp only [List.length_drop, List.length_take]; rfl)) ?_; (with_reducible refine (fold_Byte.calls a0 t102 _ A2.out).mono ?_); rintro e w' ⟨rfl, ⟨nd, rfl⟩⟩; refine ⟨_, rfl, ?_⟩))
          go_ret
          exact ⟨by first | rfl | (simp; done) | (simp [*]; done), by repeat (first | exact Drawn0.refl _ | apply Drawn0.step)⟩
      · rw [if_neg c5] at H
        have c5b0 : decide (48 ≤ t102) = false := decide_eq_false c5
        clear c5
        obtain rfl := Option.some.inj H
        go_enter Try.func24, Try.ntmps24
        go_wp2_with (first | ((with_reducible refine gate_callee (f := 34) rfl ?_); refine goesL_ (some 4) rfl rfl Try.func34 (by kernel_rfl) rfl #[.int .u8 a0] rfl (by (try simp only [List.map_toArray, List.map_cons, List.map_nil]); first | done | rfl | (simp only [List.length_drop, List.length_take]; rfl)) ?_; (with_reducible refine (fold_Byte.calls a0 t102 _ A2.out).mono ?_); rintro e w' ⟨rfl, ⟨nd, rfl⟩⟩; refine ⟨_, rfl, ?_⟩))
        go_ret
        exact ⟨by first | rfl | (simp; done) | (simp [*]; done), by repeat (first | exact Drawn0.refl _ | apply Drawn0.step)⟩
  · rw [if_neg c3] at H
    have c3b0 : decide (97 ≤ t102) = false := decide_eq_false c3
    clear c3
    by_cases c7 : 48 ≤ t102
    · rw [if_pos c7] at H
      have c7b0 : decide (48 ≤ t102) = true := decide_eq_true c7
      clear c7
      by_cases c8 : t102 ≤ 57
      · rw [if_pos c8] at H
        have c8b0 : decide (t102 ≤ 57) = true := decide_eq_true c8
        clear c8
        obtain rfl := Option.some.inj H
        go_enter Try.func24, Try.ntmps24
        go_wp2_with (first | ((with_reducible refine gate_callee (f := 34) rfl ?_); refine goesL_ (some 4) rfl rfl Try.func34 (by kernel_rfl) rfl #[.int .u8 a0] rfl (by (try simp only [List.map_toArray, List.map_cons, List.map_nil]); first | done | rfl | (simp only [List.length_drop, List.length_take]; rfl)) ?_; (with_reducible refine (fold_Byte.calls a0 t102 _ A2.out).mono ?_); rintro e w' ⟨rfl, ⟨nd, rfl⟩⟩; refine ⟨_, rfl, ?_⟩))
        go_ret
        exact ⟨by first | rfl | (simp; done) | (simp [*]; done), by repeat (first | exact Drawn0.refl _ | apply Drawn0.step)⟩
      · rw [if_neg c8] at H
        have c8b0 : decide (t102 ≤ 57) = false := decide_eq_false c8
        clear c8
        obtain rfl := Option.some.inj H
        go_enter Try.func24, Try.ntmps24
        go_wp2_with (first | ((with_reducible refine gate_callee (f := 34) rfl ?_); refine goesL_ (some 4) rfl rfl Try.func34 (by kernel_rfl) rfl #[.int .u8 a0] rfl (by (try simp only [List.map_toArray, List.map_cons, List.map_nil]); first | done | rfl | (simp only [List.length_drop, List.length_take]; rfl)) ?_; (with_reducible refine (fold_Byte.calls a0 t102 _ A2.out).mono ?_); rintro e w' ⟨rfl, ⟨nd, rfl⟩⟩; refine ⟨_, rfl, ?_⟩))
        go_ret
        exact ⟨by first | rfl | (simp; done) | (simp [*]; done), by repeat (first | exact Drawn0.refl _ | apply Drawn0.step)⟩
    · rw [if_neg c7] at H
      have c7b0 : decide (48 ≤ t102) = false := decide_eq_false c7
      clear c7
      obtain rfl := Option.some.inj H
      go_enter Try.func24, Try.ntmps24
      go_wp2_with (first | ((with_reducible refine gate_callee (f := 34) rfl ?_); refine goesL_ (some 4) rfl rfl Try.func34 (by kernel_rfl) rfl #[.int .u8 a0] rfl (by (try simp only [List.map_toArray, List.map_cons, List.map_nil]); first | done | rfl | (simp only [List.length_drop, List.length_take]; rfl)) ?_; (with_reducible refine (fold_Byte.calls a0 t102 _ A2.out).mono ?_); rintro e w' ⟨rfl, ⟨nd, rfl⟩⟩; refine ⟨_, rfl, ?_⟩))
      go_ret
      exact ⟨by first | rfl | (simp; done) | (simp [*]; done), by repeat (first | exact Drawn0.refl _ | apply Drawn0.step)⟩

def isWord (c : Int) : Bool := (fold_Word.f c).getD false
theorem fold_Word_some (c : Int) : fold_Word.f c = some (isWord c) := by
  unfold isWord
  have h : ∃ b, fold_Word.f c = some b := by
    have h1 : ∃ d, fold_Byte.f c = some d := by unfold fold_Byte.f; (repeat' split) <;> exact ⟨_, rfl⟩
    obtain ⟨d, hd⟩ := h1
    unfold fold_Word.f
    rw [hd, Option.bind_some]
    (repeat' split) <;> exact ⟨_, rfl⟩
  obtain ⟨b, hb⟩ := h
  rw [hb]; rfl
def wordAt (l : List Int) (i : Int) : Bool := decide (0 ≤ i) && (decide (i < (l.length : Int)) && isWord (rd l i))

set_option maxHeartbeats 4000000 in
set_option maxRecDepth 100000 in
theorem free1_calls (i : Int) (A0 : Option Addr) (c0 : Nat) (l0 : List Int) (B : Nat) (w : World) (hB : w.cell? ⟨B, 0, none⟩ = some (.slice A0 l0.length c0)) (hr0 : Kd.C (Kd.int .u8) w A0 l0.length l0) :
    Calls Try.prog 23 #[.int .i64 i, .pointer (some ⟨B, 0, none⟩)] w fun e w' => e = .returned (.bool (wordAt l0 i)) ∧ Drawn0 w w' := by
  by_cases c1 : 0 ≤ i
  · by_cases c2 : i < (l0.length : Int)
    · obtain ⟨ad, rfl, hx⟩ := Kd.at_int hr0 i c1 c2
      have HH := Aside0.mk (show wordAt l0 i = isWord (rd l0 i) by simp [wordAt, c1, c2])
      have HW := Aside0.mk (fold_Word_some (rd l0 i))
      have c1b : decide (0 ≤ i) = true := decide_eq_true c1
      have c2b : decide (i < (l0.length : Int)) = true := decide_eq_true c2
      replace c1 := eq_true c1
      replace c2 := eq_true c2
      clear hr0
      go_enter Try.func23, Try.ntmps23
      go_wp2_with (go_at_call 24; refine (fold_Word.calls _ _ _ HW.out).mono ?_; rintro e w' ⟨rfl, ⟨nd, rfl⟩⟩)
      go_ret
      exact ⟨by rw [HH.out]; rfl, by repeat (first | exact Drawn0.refl _ | apply Drawn0.step)⟩
    · have HH := Aside0.mk (show wordAt l0 i = false by simp [wordAt, c2])
      have c1b : decide (0 ≤ i) = true := decide_eq_true c1
      have c2b : decide (i < (l0.length : Int)) = false := decide_eq_false c2
      clear hr0 c1 c2
      go_enter Try.func23, Try.ntmps23
      go_wp2
      go_ret
      exact ⟨by rw [HH.out]; rfl, by repeat (first | exact Drawn0.refl _ | apply Drawn0.step)⟩
  · have HH := Aside0.mk (show wordAt l0 i = false by simp [wordAt, c1])
    have c1b : decide (0 ≤ i) = false := decide_eq_false c1
    clear hr0 c1
    go_enter Try.func23, Try.ntmps23
    go_wp2
    go_ret
    exact ⟨by rw [HH.out]; rfl, by repeat (first | exact Drawn0.refl _ | apply Drawn0.step)⟩

/-- which pieces are free -/
def freeB (l : List Int) (s e : Int) : Bool := (decide (0 ≤ s) && (decide (s ≤ e) && decide (e ≤ (l.length : Int)))) && (!(s == e)) && (!(wordAt l (wrap64 (s - 1))) && !(wordAt l e))
def admit_Free.f (l0 : List Int) (a1_0 a1_1 : Int) : Option Bool := some (freeB l0 a1_0 a1_1)
theorem piece_some (l : List Int) (s e : Int) : admit_piece.f l s e = some (decide (0 ≤ s) && (decide (s ≤ e) && decide (e ≤ (l.length : Int)))) := by
  unfold admit_piece.f
  by_cases h1 : 0 ≤ s <;> by_cases h2 : s ≤ e <;> simp [h1, h2]

set_option maxHeartbeats 4000000 in
set_option maxRecDepth 100000 in
theorem admit_Free.calls (A0 : Option Addr) (c0 : Nat) (l0 : List Int) (a1_0 : Int) (a1_1 : Int) (r : Bool) (w : World) (hr0 : Kd.C (Kd.int .u8) w A0 l0.length l0) (hc0 : l0.length ≤ c0) (h : admit_Free.f l0 a1_0 a1_1 = some r) :
    Calls Try.prog 10 #[.slice A0 l0.length c0, .agg #[.int .i64 a1_0, .int .i64 a1_1]] w fun e w' => e = .returned (.bool r) ∧ Below w.heap.size w w' := by
  have hu26 := Try.underlying26
  obtain rfl := Option.some.inj h
  have hmf : ∀ (fn : Fn) (first cap : Array Value) (w : World), (Instr.makeFunc fn first cap).run Try.prog w = .ok (.func fn first cap) w := fun _ _ _ _ => rfl
  have HP := Aside0.mk (piece_some l0 a1_0 a1_1)
  have HR := Aside0.mk hr0
  have HC := Aside0.mk hc0
  obtain ⟨W, HWW⟩ : ∃ W, W = (w.alloc (.cells #[.slice A0 l0.length c0] 22)).alloc (.cells #[.int .i64 a1_0, .int .i64 a1_1] 26) := ⟨_, rfl⟩
  have g1 : W.cell? ⟨w.heap.size, 0, none⟩ = some (.slice A0 l0.length c0) := by
    rw [HWW, World.cell?_alloc_past _ _ _ (by simp), World.cell?_alloc_at _ _ _ _ rfl]; rfl
  have g2 : W.cell? ⟨w.heap.size + 1, 0, none⟩ = some (.int .i64 a1_0) := by
    rw [HWW, World.cell?_alloc_at _ _ _ _ (by simp)]; rfl
  have g3 : W.cell? ⟨w.heap.size + 1, 1, none⟩ = some (.int .i64 a1_1) := by
    rw [HWW, World.cell?_alloc_at _ _ _ _ (by simp)]; rfl
  have g4 : Kd.C (Kd.int .u8) W A0 l0.length l0 := by rw [HWW]; exact Kd.C_alloc (Kd.C_alloc hr0 _) _
  have g5 : Below w.heap.size w W := by rw [HWW]; exact below_alloc (below_alloc (Below.refl _ _) _) _
  have G1 := Aside0.mk g1
  have G2 := Aside0.mk g2
  have G3 := Aside0.mk g3
  have G4 := Aside0.mk g4
  have G5 := Aside0.mk g5
  have HW0 := Aside0.mk HWW
  clear h hr0 hc0 g1 g2 g3 g4 g5 HWW
  go_enter Try.func10, Try.ntmps10
  go_wp2_with fail
  rw [← HW0.out]
  refine (admit_piece.calls _ _ _ _ _ _ _ G4.out HC.out HP.out).mono ?_
  rintro e w1 ⟨rfl, hb⟩
  have G6 := Aside0.mk (below_step G5.out hb)
  have G7 := Aside0.mk (Kd.C_below G4.out hb)
  have k1 := pw_cell_below hb G1.out
  have k2 := pw_cell_below hb G2.out
  have k3 := pw_cell_below hb G3.out
  clear hb
  by_cases c1 : (decide (0 ≤ a1_0) && (decide (a1_0 ≤ a1_1) && decide (a1_1 ≤ (l0.length : Int)))) = true
  · by_cases c2 : a1_0 = a1_1
    · have HE := Aside0.mk (show freeB l0 a1_0 a1_1 = false by unfold freeB; rw [c2]; simp)
      have c2b : (a1_0 == a1_1) = true := by simpa using c2
      rw [c1]
      clear c1 c2
      go_wp2
      go_ret
      exact ⟨by rw [HE.out]; rfl, by repeat (first | exact G6.out | apply pw_below_drewN)⟩
    · have HE := Aside0.mk (show freeB l0 a1_0 a1_1 = (!(wordAt l0 (wrap64 (a1_0 - 1))) && !(wordAt l0 a1_1)) by
        unfold freeB; rw [c1]; simp [c2])
      have c2b : (a1_0 == a1_1) = false := by simpa using c2
      rw [c1]
      clear c1 c2
      generalize hwa : wordAt l0 (wrap64 (a1_0 - 1)) = t1 at *
      have HWA := Aside0.mk hwa
      clear hwa
      go_wp2_with fail
      refine (free1_calls _ _ _ _ _ _ k1 G7.out).mono ?_
      rintro e w2 ⟨rfl, ⟨nd, rfl⟩⟩
      rw [HWA.out]
      cases t1
      · go_wp2_with fail
        refine (free1_calls _ A0 c0 l0 w.heap.size (w1.drewN nd) k1 (Kd.C_drewN G7.out _)).mono ?_
        rintro e w2 ⟨rfl, ⟨nd, rfl⟩⟩
        go_wp2
        go_ret
        refine ⟨?_, by repeat (first | exact G6.out | apply pw_below_drewN)⟩
        rw [HE.out]; rfl
      · go_wp2
        go_ret
        refine ⟨?_, by repeat (first | exact G6.out | apply pw_below_drewN)⟩
        rw [HE.out]; rfl
  · have HE := Aside0.mk (show freeB l0 a1_0 a1_1 = false by unfold freeB; rw [Bool.eq_false_iff.mpr c1]; rfl)
    rw [Bool.eq_false_iff.mpr c1]
    clear c1
    go_wp2
    go_ret
    exact ⟨by rw [HE.out]; rfl, by repeat (first | exact G6.out | apply pw_below_drewN)⟩

-- NOT PRINTED: function 21 (admit_musts)

/-- whether a pair is a piece of a line -/
def pieceB (l : List Int) (s e : Int) : Bool := decide (0 ≤ s) && (decide (s ≤ e) && decide (e ≤ (l.length : Int)))
theorem piece_some' (l : List Int) (s e : Int) : admit_piece.f l s e = some (pieceB l s e) := piece_some l s e

set_option maxHeartbeats 4000000 in
set_option maxRecDepth 100000 in
theorem must1_calls (A0 : Option Addr) (c0 : Nat) (l0 : List Int) (a1_0 : Int) (a1_1 : Int) (B : Nat) (w : World) (hB : w.cell? ⟨B, 0, none⟩ = some (.slice A0 l0.length c0)) (hr0 : Kd.C (Kd.int .u8) w A0 l0.length l0) (hc0 : l0.length ≤ c0) :
    Calls Try.prog 31 #[.agg #[.int .i64 a1_0, .int .i64 a1_1], .pointer (some ⟨B, 0, none⟩)] w fun e w' => e = .returned (.bool (pieceB l0 a1_0 a1_1)) ∧ Below w.heap.size w w' := by
  have hu26 := Try.underlying26
  obtain ⟨W, HWW⟩ : ∃ W, W = w.alloc (.cells #[.int .i64 a1_0, .int .i64 a1_1] 26) := ⟨_, rfl⟩
  have g1 : (w.alloc (.cells #[.int .i64 a1_0, .int .i64 a1_1] 26)).cell? ⟨B, 0, none⟩ = some (.slice A0 l0.length c0) := pw_cell_below (below_alloc (Below.refl _ _) _) hB
  have G4 := Aside0.mk (Kd.C_alloc hr0 (.cells #[.int .i64 a1_0, .int .i64 a1_1] 26))
  have HC := Aside0.mk hc0
  clear HWW W hr0 hc0 hB
  go_enter Try.func31, Try.ntmps31
  go_wp2_with fail
  refine (admit_piece.calls _ _ _ _ _ _ _ G4.out HC.out (piece_some' _ _ _)).mono ?_
  rintro e w1 ⟨rfl, hb⟩
  have G6 := Aside0.mk (below_step (below_alloc (Below.refl _ _) _) hb)
  clear hb
  go_wp2
  go_ret
  exact ⟨rfl, G6.out⟩

set_option maxHeartbeats 4000000 in
set_option maxRecDepth 100000 in
theorem must2_calls (A0 : Option Addr) (c0 : Nat) (l0 : List Int) (a1_0 : Int) (a1_1 : Int) (B : Nat) (w : World) (hB : w.cell? ⟨B, 0, none⟩ = some (.slice A0 l0.length c0)) (hr0 : Kd.C (Kd.int .u8) w A0 l0.length l0) (hc0 : l0.length ≤ c0) :
    Calls Try.prog 32 #[.agg #[.int .i64 a1_0, .int .i64 a1_1], .pointer (some ⟨B, 0, none⟩)] w fun e w' => e = .returned (.bool (freeB l0 a1_0 a1_1)) ∧ Below w.heap.size w w' := by
  have hu26 := Try.underlying26
  have g1 : (w.alloc (.cells #[.int .i64 a1_0, .int .i64 a1_1] 26)).cell? ⟨B, 0, none⟩ = some (.slice A0 l0.length c0) := pw_cell_below (below_alloc (Below.refl _ _) _) hB
  have G4 := Aside0.mk (Kd.C_alloc hr0 (.cells #[.int .i64 a1_0, .int .i64 a1_1] 26))
  have HC := Aside0.mk hc0
  clear hr0 hc0 hB
  go_enter Try.func32, Try.ntmps32
  go_wp2_with fail
  refine (admit_Free.calls _ _ _ _ _ _ _ G4.out HC.out rfl).mono ?_
  rintro e w1 ⟨rfl, hb⟩
  have G6 := Aside0.mk (below_step (below_alloc (Below.refl _ _) _) hb)
  clear hb
  go_wp2
  go_ret
  exact ⟨rfl, G6.out⟩

def wholeB (l : List Int) (s e : Int) : Bool := (s == 0) && (e == (l.length : Int))
set_option maxHeartbeats 4000000 in
set_option maxRecDepth 100000 in
theorem must3_calls (A0 : Option Addr) (c0 : Nat) (l0 : List Int) (a1_0 : Int) (a1_1 : Int) (B : Nat) (w : World) (hB : w.cell? ⟨B, 0, none⟩ = some (.slice A0 l0.length c0)) :
    Calls Try.prog 33 #[.agg #[.int .i64 a1_0, .int .i64 a1_1], .pointer (some ⟨B, 0, none⟩)] w fun e w' => e = .returned (.bool (wholeB l0 a1_0 a1_1)) ∧ Below w.heap.size w w' := by
  have hu26 := Try.underlying26
  have g1 : (w.alloc (.cells #[.int .i64 a1_0, .int .i64 a1_1] 26)).cell? ⟨B, 0, none⟩ = some (.slice A0 l0.length c0) := pw_cell_below (below_alloc (Below.refl _ _) _) hB
  have HE : ∀ b, (a1_0 == 0) = b → wholeB l0 a1_0 a1_1 = (b && (a1_1 == (l0.length : Int))) := by rintro b rfl; rfl
  clear hB
  cases hb : (a1_0 == 0)
  all_goals
    have HE' := Aside0.mk (HE _ hb)
    clear HE
    go_enter Try.func33, Try.ntmps33
    go_wp2
    go_ret
    exact ⟨by rw [HE'.out]; rfl, below_alloc (Below.refl _ _) _⟩

def mustFns (x y : Bool) : List Nat := [31] ++ ((if x then [32] else []) ++ (if y then [33] else []))
def mustVal (B k : Nat) : Value := .func (.func k) #[] #[.pointer (some ⟨B, 0, none⟩)]
theorem info47 : (Try.prog.info? 47).map (fun i => (i.zero, i.size, i.bytes)) = some (some (.agg #[.nilFunc]), 1, 8) := by kernel_rfl

set_option maxHeartbeats 4000000 in
set_option maxRecDepth 100000 in
theorem musts_calls (A0 : Option Addr) (c0 : Nat) (l0 : List Int) (x y : Bool) (w : World) :
    Calls Try.prog 21 #[.slice A0 l0.length c0, .bool x, .bool y] w fun e w' => ∃ v : Value, e = .returned v ∧
      w'.ownsRow (w.heap.size + 1) 47 1 v (mustFns x y).length ((mustFns x y).map (mustVal w.heap.size)) ∧
      w'.cell? ⟨w.heap.size, 0, none⟩ = some (.slice A0 l0.length c0) ∧ Below w.heap.size w w' := by
  have hu47 := Try.underlying47
  have hmf : ∀ (fn : Fn) (first cap : Array Value) (w : World), (Instr.makeFunc fn first cap).run Try.prog w = .ok (.func fn first cap) w := fun _ _ _ _ => rfl
  have L1 : ((w.alloc (.cells #[.slice A0 l0.length c0] 22)).alloc (.cells #[mustVal w.heap.size 31] 47)).ownsRow (w.heap.size + 1) 47 1 (.slice (some ⟨w.heap.size + 1, 0, none⟩) 1 1) 1 [mustVal w.heap.size 31] := by
    have h := World.ownsRow_lit (base := w.heap.size + 1) (e := 47) (size := 1) (w.alloc (.cells #[.slice A0 l0.length c0] 22)) #[mustVal w.heap.size 31] 1 (by simp) (by decide) (by simp)
    simpa using h
  have L2 : ((w.alloc (.cells #[.slice A0 l0.length c0] 22)).alloc (.cells #[mustVal w.heap.size 31] 47)).cell? ⟨w.heap.size, 0, none⟩ = some (.slice A0 l0.length c0) := by
    rw [World.cell?_alloc_past _ _ _ (by simp), World.cell?_alloc_at _ _ _ _ rfl]; rfl
  have L3 : Below w.heap.size w ((w.alloc (.cells #[.slice A0 l0.length c0] 22)).alloc (.cells #[mustVal w.heap.size 31] 47)) := below_alloc (below_alloc (Below.refl _ _) _) _
  have L4 : Below (w.heap.size + 1) ((w.alloc (.cells #[.slice A0 l0.length c0] 22)).alloc (.cells #[mustVal w.heap.size 31] 47)) ((w.alloc (.cells #[.slice A0 l0.length c0] 22)).alloc (.cells #[mustVal w.heap.size 31] 47)) := Below.refl _ _
  have M1 := Aside0.mk L1
  have M2 := Aside0.mk L2
  have M3 := Aside0.mk L3
  have M4 := Aside0.mk L4
  clear L1 L2 L3 L4
  cases x <;> cases y
  · go_enter Try.func21, Try.ntmps21
    go_wp2
    go_ret
    exact ⟨_, rfl, M1.out, M2.out, M3.out⟩
  · go_enter Try.func21, Try.ntmps21
    go_wp2_with (at_builtin; refine print_append_cells (w.heap.size + 1) rfl (.tmp 18) (.tmp 21) 43 47 _ 1 8 rfl Try.underlying43 info47 rfl (by decide) (by decide) (.slice (some ⟨w.heap.size + 1, 0, none⟩) 1 1) 1 [mustVal w.heap.size 31] [mustVal w.heap.size 33] rfl (by first | rfl | (show Value.slice _ 1 1 = Value.slice _ 1 1; simp)) rfl (by simp [mustVal, Value.oneCell']) M1.out M4.out (by simp) (by decide) ?_; intro v1 w2 ho hb hg hat)
    go_ret
    exact ⟨_, rfl, ho, hg.cell M2.out (by simp [Value.ownBlock]), M3.out.trans (hb.mono (by simp))⟩
  · go_enter Try.func21, Try.ntmps21
    go_wp2_with (at_builtin; refine print_append_cells (w.heap.size + 1) rfl (.tmp 12) (.tmp 15) 43 47 _ 1 8 rfl Try.underlying43 info47 rfl (by decide) (by decide) (.slice (some ⟨w.heap.size + 1, 0, none⟩) 1 1) 1 [mustVal w.heap.size 31] [mustVal w.heap.size 32] rfl (by first | rfl | (show Value.slice _ 1 1 = Value.slice _ 1 1; simp)) rfl (by simp [mustVal, Value.oneCell']) M1.out M4.out (by simp) (by decide) ?_; intro v1 w2 ho hb hg hat)
    go_ret
    exact ⟨_, rfl, ho, hg.cell M2.out (by simp [Value.ownBlock]), M3.out.trans (hb.mono (by simp))⟩
  · go_enter Try.func21, Try.ntmps21
    go_wp2_with (first | (at_builtin; refine print_append_cells (w.heap.size + 1) rfl (.tmp 12) (.tmp 15) 43 47 _ 1 8 rfl Try.underlying43 info47 rfl (by decide) (by decide) (.slice (some ⟨w.heap.size + 1, 0, none⟩) 1 1) 1 [mustVal w.heap.size 31] [mustVal w.heap.size 32] rfl (by first | rfl | (show Value.slice _ 1 1 = Value.slice _ 1 1; simp)) rfl (by simp [mustVal, Value.oneCell']) M1.out M4.out (by simp) (by decide) ?_; intro v1 w2 ho hb hg hat; have N1 := Aside0.mk ho; have N2 := Aside0.mk hb; have N3 := Aside0.mk (hg.cell M2.out (by simp [Value.ownBlock])); clear M1 M4 ho hb hg hat) | (at_builtin; refine print_append_cells (w.heap.size + 1) rfl (.tmp 18) (.tmp 21) 43 47 _ 1 8 rfl Try.underlying43 info47 rfl (by decide) (by decide) v1 2 [mustVal w.heap.size 31, mustVal w.heap.size 32] [mustVal w.heap.size 33] rfl (by first | rfl | (show Value.slice _ 1 1 = Value.slice _ 1 1; simp)) rfl (by simp [mustVal, Value.oneCell']) N1.out N2.out (by have := N2.out.size; simp at this ⊢; omega) (by decide) ?_; intro v1 w2 ho hb hg hat))
    go_ret
    exact ⟨_, rfl, ho, hg.cell N3.out (fun he => by have := (N1.out.lt _ he.symm).1; simp at this; omega), M3.out.trans (hb.mono (by simp))⟩

def mustB (l : List Int) (s e : Int) (k : Nat) : Bool := if k = 31 then pieceB l s e else if k = 32 then freeB l s e else wholeB l s e
def mayB (l : List Int) (s e : Int) (x y : Bool) : Bool := (mustFns x y).all (mustB l s e)
def admit_May.f (l0 : List Int) (a1_0 a1_1 : Int) (a2 a3 : Bool) : Option Bool := some (mayB l0 a1_0 a1_1 a2 a3)
theorem must_calls (k : Nat) (hk : k = 31 ∨ k = 32 ∨ k = 33) (A0 : Option Addr) (c0 : Nat) (l0 : List Int) (a1_0 : Int) (a1_1 : Int) (B : Nat) (w : World) (hB : w.cell? ⟨B, 0, none⟩ = some (.slice A0 l0.length c0)) (hr0 : Kd.C (Kd.int .u8) w A0 l0.length l0) (hc0 : l0.length ≤ c0) :
    Calls Try.prog k #[.agg #[.int .i64 a1_0, .int .i64 a1_1], .pointer (some ⟨B, 0, none⟩)] w fun e w' => e = .returned (.bool (mustB l0 a1_0 a1_1 k)) ∧ Below w.heap.size w w' := by
  rcases hk with rfl | rfl | rfl
  · exact must1_calls A0 c0 l0 a1_0 a1_1 B w hB hr0 hc0
  · exact must2_calls A0 c0 l0 a1_0 a1_1 B w hB hr0 hc0
  · exact must3_calls A0 c0 l0 a1_0 a1_1 B w hB
theorem mustFns_mem (x y : Bool) (j : Nat) (h : j < (mustFns x y).length) : (mustFns x y).getD j 0 = 31 ∨ (mustFns x y).getD j 0 = 32 ∨ (mustFns x y).getD j 0 = 33 := by
  revert h
  cases x <;> cases y <;> simp [mustFns] <;> intro h
  · have : j = 0 := by omega
    subst this; simp
  · rcases (by omega : j = 0 ∨ j = 1) with rfl | rfl <;> simp
  · rcases (by omega : j = 0 ∨ j = 1) with rfl | rfl <;> simp
  · rcases (by omega : j = 0 ∨ j = 1 ∨ j = 2) with rfl | rfl | rfl <;> simp

set_option maxHeartbeats 4000000 in
set_option maxRecDepth 100000 in
theorem admit_May.calls (A0 : Option Addr) (c0 : Nat) (l0 : List Int) (a1_0 : Int) (a1_1 : Int) (a2 : Bool) (a3 : Bool) (r : Bool) (w : World) (hr0 : Kd.C (Kd.int .u8) w A0 l0.length l0) (hc0 : l0.length ≤ c0) (h : admit_May.f l0 a1_0 a1_1 a2 a3 = some r) :
    Calls Try.prog 9 #[.slice A0 l0.length c0, .agg #[.int .i64 a1_0, .int .i64 a1_1], .bool a2, .bool a3] w fun e w' => e = .returned (.bool r) ∧ Below w.heap.size w w' := by
  have hu26 := Try.underlying26
  have hu47 := Try.underlying47
  obtain rfl := Option.some.inj h
  have HR := Aside0.mk hr0
  have HC := Aside0.mk hc0
  clear h hr0 hc0
  go_enter Try.func9, Try.ntmps9
  go_wp2_with fail
  have hs : (w.alloc (.cells #[.int .i64 a1_0, .int .i64 a1_1] 26)).heap.size = w.heap.size + 1 := by simp
  refine (musts_calls A0 c0 l0 a2 a3 _).mono ?_
  rintro e w1 ⟨v, rfl, ho, hB, hb⟩
  have hpos : 0 < (mustFns a2 a3).length := by cases a2 <;> cases a3 <;> simp [mustFns]
  have hn3 : (mustFns a2 a3).length ≤ 3 := by cases a2 <;> cases a3 <;> simp [mustFns]
  obtain ⟨g, cap, rfl, hg1, hg2⟩ := ho.form hpos
  rw [hs] at ho hB
  have G0 := Aside0.mk (show ∀ j, j < (mustFns a2 a3).length → w1.cell? ⟨g, j, none⟩ = some (mustVal (w.heap.size + 1) ((mustFns a2 a3).getD j 0)) from fun j hj => by
    rw [ho.cellAt j (by omega), List.getElem?_map]
    simp [List.getD_eq_getElem?_getD, List.getElem?_eq_getElem hj])
  have G1 := Aside0.mk hB
  have G2 := Aside0.mk (Kd.C_below (Kd.C_alloc HR.out (.cells #[.int .i64 a1_0, .int .i64 a1_1] 26)) hb)
  have G3 := Aside0.mk (pw_cell_below hb (a := ⟨w.heap.size, 0, none⟩) (v := .int .i64 a1_0) (by rw [World.cell?_alloc_at _ _ _ _ rfl]; rfl))
  have G4 := Aside0.mk (pw_cell_below hb (a := ⟨w.heap.size, 1, none⟩) (v := .int .i64 a1_1) (by rw [World.cell?_alloc_at _ _ _ _ rfl]; rfl))
  have G5 := Aside0.mk (below_step (below_alloc (Below.refl _ _) _) hb)
  clear hb ho hB hs HR
  generalize hfs : mustFns a2 a3 = fs at *
  have HFS := Aside0.mk hfs
  clear hfs
  go_wp2
  go_loopw [16] (fun i wr => ∃ k : Nat, k ≤ fs.length ∧ i = .int .i64 k ∧ Aside0 ((fs.take k).all (mustB l0 a1_0 a1_1) = true) ∧ Aside0 (Below w1.heap.size w1 wr)) (fun i _ => fs.length - (intOf i).toNat)
  case atStart => exact ⟨0, Nat.zero_le _, rfl, ⟨by simp⟩, ⟨Below.refl _ _⟩⟩
  case round =>
    obtain ⟨k, hk, rfl, HA, HB⟩ := hrel
    by_cases hlt : k < fs.length
    · have k0 : wr.cell? ⟨g, k, none⟩ = some (.func (.func (fs.getD k 0)) #[] #[.pointer (some ⟨w.heap.size + 1, 0, none⟩)]) := pw_cell_below HB.out (G0.out k hlt)
      have k2 := pw_cell_below HB.out G3.out
      have k3 := pw_cell_below HB.out G4.out
      have g47 : (Try.prog.underlying 47) = some (TypeDesc.struct #[{ name := "be", type := 45, offset := 0, embedded := false, tag := "", pkgPath := "seine/admit", byteOffset := 0 }]) := Try.underlying47
      generalize hfk : fs.getD k 0 = f at k0
      have HF := Aside0.mk hfk
      clear hfk
      have hm := mustFns_mem a2 a3 k (by rw [HFS.out]; exact hlt)
      rw [HFS.out, HF.out] at hm
      have HS := Aside0.mk (show (fs.take (k + 1)).all (mustB l0 a1_0 a1_1) = mustB l0 a1_0 a1_1 f from by
        rw [List.take_succ_eq_append_getElem hlt, List.all_append, HA.out]
        have e1 : fs[k] = f := by have := HF.out; rwa [List.getD_eq_getElem?_getD, List.getElem?_eq_getElem hlt] at this
        simp [e1])
      have HN := Aside0.mk (show mustB l0 a1_0 a1_1 f = false → mayB l0 a1_0 a1_1 a2 a3 = false from fun hf => by
        unfold mayB
        rw [HFS.out, List.all_eq_false]
        have e1 : fs[k] = f := by have := HF.out; rwa [List.getD_eq_getElem?_getD, List.getElem?_eq_getElem hlt] at this
        exact ⟨f, e1 ▸ List.getElem_mem hlt, by simp [hf]⟩)
      clear HF
      have z1 : (wr.alloc (.cells #[.func (.func f) #[] #[.pointer (some ⟨w.heap.size + 1, 0, none⟩)]] 47)).cell? ⟨w.heap.size, 0, none⟩ = some (.int .i64 a1_0) := pw_cell_below (below_alloc (Below.refl _ _) _) k2
      have z2 : (wr.alloc (.cells #[.func (.func f) #[] #[.pointer (some ⟨w.heap.size + 1, 0, none⟩)]] 47)).cell? ⟨w.heap.size, 1, none⟩ = some (.int .i64 a1_1) := pw_cell_below (below_alloc (Below.refl _ _) _) k3
      have Z3 := Aside0.mk (show (wr.alloc (.cells #[.func (.func f) #[] #[.pointer (some ⟨w.heap.size + 1, 0, none⟩)]] 47)).cell? ⟨w.heap.size + 1, 0, none⟩ = some (.slice A0 l0.length c0) from pw_cell_below (below_alloc HB.out _) G1.out)
      have Z4 := Aside0.mk (show Kd.C (Kd.int .u8) (wr.alloc (.cells #[.func (.func f) #[] #[.pointer (some ⟨w.heap.size + 1, 0, none⟩)]] 47)) A0 l0.length l0 from Kd.C_below G2.out (below_alloc HB.out _))
      have Z5 := Aside0.mk (below_alloc HB.out (.cells #[.func (.func f) #[] #[.pointer (some ⟨w.heap.size + 1, 0, none⟩)]] 47))
      have hmf := Aside0.mk (must_calls f hm A0 c0 l0 a1_0 a1_1 (w.heap.size + 1) _ Z3.out Z4.out HC.out)
      clear k2 k3 G3 G4 Z3 Z4
      rcases hm with rfl | rfl | rfl
      all_goals
        go_wp2_with fail
        refine hmf.out.mono ?_
        rintro e w2 ⟨rfl, hb2⟩
        have Z6 := Aside0.mk (below_step Z5.out hb2)
        clear hb2 hmf z1 z2 k0
      all_goals
        generalize hq : mustB l0 a1_0 a1_1 _ = q at *
        clear hq
        cases q
        · go_wp2
          go_ret
          exact ⟨by rw [HN.out trivial]; rfl, G5.out.trans (Z6.out.mono G5.out.size)⟩
        · go_wp2
          go_roundw
          case rel => exact ⟨k + 1, by omega, by go_num, ⟨HS.out⟩, ⟨Z6.out⟩⟩
          case measure => simp [intOf]; omega
    · have hke : k = fs.length := by omega
      have HS := Aside0.mk (show mayB l0 a1_0 a1_1 a2 a3 = true from by
        unfold mayB
        rw [HFS.out]
        have := HA.out
        rwa [hke, List.take_length] at this)
      clear hke
      go_wp2
      go_ret
      exact ⟨by rw [HS.out]; rfl, G5.out.trans (HB.out.mono G5.out.size)⟩

/-- a row of bytes that a constant text was laid as -/
theorem const_reads (w : World) (xs : List Int) (e : TypeId) (fr : Nat × Nat) (hm : xs.length ≤ 9223372036854775807) :
    Kd.C (Kd.int .u8) (w.alloc (.cells (xs.map (Value.int .u8)).toArray e fr)) (some ⟨w.heap.size, 0, none⟩) xs.length xs := by
  refine Kd.C_of_reads (d := (0 : Int)) (h1 := fun _ => rfl) ⟨rfl, hm, fun _ => ⟨_, rfl, fun j hj => ?_⟩⟩
  rw [add_plain, World.cell?_alloc_mark]
  simp [List.getD_eq_getElem?_getD, List.getElem?_eq_getElem hj]
def awk : List Int := [97, 98, 32, 99, 100, 95]
def seinelaw22_awake.f : Option Bool := some true
set_option maxHeartbeats 8000000 in
set_option maxRecDepth 100000 in
theorem seinelaw22_awake.calls (r : Bool) (w : World) (h : seinelaw22_awake.f = some r) :
    Calls Try.prog 8 #[] w fun e w' => e = .returned (.bool r) ∧ Below w.heap.size w w' := by
  obtain rfl := Option.some.inj h
  have hu26 := Try.underlying26
  have kc := fun (w : World) (C : Array Value) (n c : Nat) => Lib.run_convert_bytes_const (P := Try.prog) w 22 5 C n c Try.underlying22 Try.underlying5
  have HC := Aside0.mk (const_reads w awk 5 (6, 7) (by decide))
  have HB := Aside0.mk (below_alloc (Below.refl w.heap.size w) (.cells (awk.map (Value.int .u8)).toArray 5 (6, 7)))
  clear h
  go_enter Try.func8, Try.ntmps8
  go_wp2_with fail
  refine (admit_Free.calls (some ⟨w.heap.size, 0, none⟩) 6 awk 0 2 true _ HC.out (by decide) (by decide +kernel)).mono ?_
  rintro e w1 ⟨rfl, hb⟩
  have C1 := Aside0.mk (Kd.C_below HC.out hb)
  have B1 := Aside0.mk (below_step HB.out hb)
  clear hb HC HB
  go_wp2_with fail
  refine (admit_Free.calls (some ⟨w.heap.size, 0, none⟩) 6 awk 3 5 false _ C1.out (by decide) (by decide +kernel)).mono ?_
  rintro e w2 ⟨rfl, hb⟩
  have C2 := Aside0.mk (Kd.C_below C1.out hb)
  have B2 := Aside0.mk (below_step B1.out hb)
  clear hb C1 B1
  go_wp2_with fail
  refine (admit_May.calls (some ⟨w.heap.size, 0, none⟩) 6 awk 3 5 false false true _ C2.out (by decide) (by decide +kernel)).mono ?_
  rintro e w3 ⟨rfl, hb⟩
  have C3 := Aside0.mk (Kd.C_below C2.out hb)
  have B3 := Aside0.mk (below_step B2.out hb)
  clear hb C2 B2
  go_wp2_with fail
  refine (admit_May.calls (some ⟨w.heap.size, 0, none⟩) 6 awk 0 2 false true false _ C3.out (by decide) (by decide +kernel)).mono ?_
  rintro e w4 ⟨rfl, hb⟩
  have C4 := Aside0.mk (Kd.C_below C3.out hb)
  have B4 := Aside0.mk (below_step B3.out hb)
  clear hb C3 B3
  go_wp2_with fail
  refine (admit_May.calls (some ⟨w.heap.size, 0, none⟩) 6 awk 0 6 true true true _ C4.out (by decide) (by decide +kernel)).mono ?_
  rintro e w5 ⟨rfl, hb⟩
  have B5 := Aside0.mk (below_step B4.out hb)
  clear hb C4 B4
  go_wp2
  go_ret
  exact ⟨rfl, B5.out⟩

/-! ### seinelaw22_AdmitEmpty: function 3 -/
def seinelaw22_AdmitEmpty.f (l0 : List Int) (a1 : Int) (a2 : Bool) (a3 : Bool) : Option (Bool) := (seinelaw22_awake.f).bind fun t103 => (if t103 = true then (if (l0.length : Int) > 400 then (some true) else (if (wrap64 ((l0.length : Int) + 1)) = 0 then (none) else ((admit_May.f l0 (Int.tmod (wrap64 (a1)) (wrap64 ((l0.length : Int) + 1))) (Int.tmod (wrap64 (a1)) (wrap64 ((l0.length : Int) + 1))) a2 a3).bind fun t105 => (if a2 = true then (if (t105 == false) = true then ((admit_Free.f l0 (Int.tmod (wrap64 (a1)) (wrap64 ((l0.length : Int) + 1))) (Int.tmod (wrap64 (a1)) (wrap64 ((l0.length : Int) + 1)))).bind fun t106 => (some (!t106))) else (some false)) else (if a3 = true then (if (t105 == ((l0.length : Int) == 0)) = true then ((admit_Free.f l0 (Int.tmod (wrap64 (a1)) (wrap64 ((l0.length : Int) + 1))) (Int.tmod (wrap64 (a1)) (wrap64 ((l0.length : Int) + 1)))).bind fun t107 => (some (!t107))) else (some false)) else (if (t105 == true) = true then ((admit_Free.f l0 (Int.tmod (wrap64 (a1)) (wrap64 ((l0.length : Int) + 1))) (Int.tmod (wrap64 (a1)) (wrap64 ((l0.length : Int) + 1)))).bind fun t108 => (some (!t108))) else (some false))))))) else (some false))
set_option maxHeartbeats 8000000 in
set_option maxRecDepth 100000 in
theorem seinelaw22_AdmitEmpty.calls (A0 : Option Addr) (c0 : Nat) (l0 : List Int) (a1 : Int) (a2 : Bool) (a3 : Bool) (r : Bool) (w : World) (hr0 : Kd.C (Kd.int .u8) w A0 l0.length l0) (hc0 : l0.length ≤ c0) (h : seinelaw22_AdmitEmpty.f l0 a1 a2 a3 = some r) :
    Calls Try.prog 3 #[.slice A0 l0.length c0, .int .u16 a1, .bool a2, .bool a3] w fun e w' => e = .returned (.bool r) ∧ Below w.heap.size w w' := by
  have hu26 := Try.underlying26
  have HR0 := Aside0.mk hr0
  have HC0 := Aside0.mk hc0
  clear hr0 hc0
  have HB := Aside0.mk (Below.refl w.heap.size w)
  have H : ((seinelaw22_awake.f).bind fun t103 => (if t103 = true then (if (l0.length : Int) > 400 then (some true) else (if (wrap64 ((l0.length : Int) + 1)) = 0 then (none) else ((admit_May.f l0 (Int.tmod (wrap64 (a1)) (wrap64 ((l0.length : Int) + 1))) (Int.tmod (wrap64 (a1)) (wrap64 ((l0.length : Int) + 1))) a2 a3).bind fun t105 => (if a2 = true then (if (t105 == false) = true then ((admit_Free.f l0 (Int.tmod (wrap64 (a1)) (wrap64 ((l0.length : Int) + 1))) (Int.tmod (wrap64 (a1)) (wrap64 ((l0.length : Int) + 1)))).bind fun t106 => (some (!t106))) else (some false)) else (if a3 = true then (if (t105 == ((l0.length : Int) == 0)) = true then ((admit_Free.f l0 (Int.tmod (wrap64 (a1)) (wrap64 ((l0.length : Int) + 1))) (Int.tmod (wrap64 (a1)) (wrap64 ((l0.length : Int) + 1)))).bind fun t107 => (some (!t107))) else (some false)) else (if (t105 == true) = true then ((admit_Free.f l0 (Int.tmod (wrap64 (a1)) (wrap64 ((l0.length : Int) + 1))) (Int.tmod (wrap64 (a1)) (wrap64 ((l0.length : Int) + 1)))).bind fun t108 => (some (!t108))) else (some false))))))) else (some false))) = some r := h
  clear h
  replace H := Option.bind_eq_some_iff.mp H
  obtain ⟨t103, A50, H⟩ := H
  replace H : (if t103 = true then (if (l0.length : Int) > 400 then (some true) else (if (wrap64 ((l0.length : Int) + 1)) = 0 then (none) else ((admit_May.f l0 (Int.tmod (wrap64 (a1)) (wrap64 ((l0.length : Int) + 1))) (Int.tmod (wrap64 (a1)) (wrap64 ((l0.length : Int) + 1))) a2 a3).bind fun t105 => (if a2 = true then (if (t105 == false) = true then ((admit_Free.f l0 (Int.tmod (wrap64 (a1)) (wrap64 ((l0.length : Int) + 1))) (Int.tmod (wrap64 (a1)) (wrap64 ((l0.length : Int) + 1)))).bind fun t106 => (some (!t106))) else (some false)) else (if a3 = true then (if (t105 == ((l0.length : Int) == 0)) = true then ((admit_Free.f l0 (Int.tmod (wrap64 (a1)) (wrap64 ((l0.length : Int) + 1))) (Int.tmod (wrap64 (a1)) (wrap64 ((l0.length : Int) + 1)))).bind fun t107 => (some (!t107))) else (some false)) else (if (t105 == true) = true then ((admit_Free.f l0 (Int.tmod (wrap64 (a1)) (wrap64 ((l0.length : Int) + 1))) (Int.tmod (wrap64 (a1)) (wrap64 ((l0.length : Int) + 1)))).bind fun t108 => (some (!t108))) else (some false))))))) else (some false)) = some r := H
  have A5 := Aside0.mk A50
  clear A50
  by_cases c6 : t103 = true
  · subst c6
    have H1 : (if (l0.length : Int) > 400 then (some true) else (if (wrap64 ((l0.length : Int) + 1)) = 0 then (none) else ((admit_May.f l0 (Int.tmod (wrap64 (a1)) (wrap64 ((l0.length : Int) + 1))) (Int.tmod (wrap64 (a1)) (wrap64 ((l0.length : Int) + 1))) a2 a3).bind fun t105 => (if a2 = true then (if (t105 == false) = true then ((admit_Free.f l0 (Int.tmod (wrap64 (a1)) (wrap64 ((l0.length : Int) + 1))) (Int.tmod (wrap64 (a1)) (wrap64 ((l0.length : Int) + 1)))).bind fun t106 => (some (!t106))) else (some false)) else (if a3 = true then (if (t105 == ((l0.length : Int) == 0)) = true then ((admit_Free.f l0 (Int.tmod (wrap64 (a1)) (wrap64 ((l0.length : Int) + 1))) (Int.tmod (wrap64 (a1)) (wrap64 ((l0.length : Int) + 1)))).bind fun t107 => (some (!t107))) else (some false)) else (if (t105 == true) = true then ((admit_Free.f l0 (Int.tmod (wrap64 (a1)) (wrap64 ((l0.length : Int) + 1))) (Int.tmod (wrap64 (a1)) (wrap64 ((l0.length : Int) + 1)))).bind fun t108 => (some (!t108))) else (some false))))))) = some r := by rw [if_pos rfl] at H; exact H
    clear H
    have H := H1
    clear H1
    by_cases c7 : (l0.length : Int) > 400
    · rw [if_pos c7] at H
      have c7b0 : decide (400 < (l0.length : Int)) = true := decide_eq_true c7
      have c7b1 : decide (400 < l0.length) = true := decide_eq_true (by omega)
      clear c7
      obtain rfl := Option.some.inj H
      go_enter Try.func3, Try.ntmps3
      go_wp2_with (first | ((with_reducible refine gate_callee (f := 8) rfl ?_); refine goesL_ (some 12) rfl rfl Try.func8 (by kernel_rfl) rfl #[] rfl (by (try simp only [List.map_toArray, List.map_cons, List.map_nil]); first | done | rfl | (simp only [List.length_drop, List.length_take]; rfl)) ?_; (with_reducible refine (seinelaw22_awake.calls  true _ A5.out).mono ?_); rintro e w8 ⟨rfl, hb⟩; refine ⟨_, rfl, ?_⟩; have n0_ := Aside0.mk (below_step (by repeat (first | (with_reducible first | exact HB.out | apply below_alloc | apply pw_below_drewN | apply below_drew1) | exact HB.out)) hb); clear HB; have HB := n0_; clear n0_; (try clear hb); (try clear hb2); (try clear hk); (try clear hi)))
      go_ret
      exact ⟨by first | rfl | (simp [errW_none, errW_some] <;> rfl) | (simp [*, errW_none, errW_some] <;> rfl), by repeat (first | (with_reducible first | exact HB.out | apply below_alloc | apply pw_below_drewN | apply below_drew1) | exact HB.out)⟩
    · rw [if_neg c7] at H
      have c7b0 : decide (400 < (l0.length : Int)) = false := decide_eq_false c7
      have c7b1 : decide (400 < l0.length) = false := decide_eq_false (by omega)
      clear c7
      by_cases c9 : (wrap64 ((l0.length : Int) + 1)) = 0
      · rw [if_pos c9] at H
        exact absurd H (by simp)
      · rw [if_neg c9] at H
        have c9b0 : ((wrap64 ((l0.length : Int) + 1)) == 0) = false := beq_eq_false_iff_ne.mpr c9
        have c9b1 : ((wrap64 ((l0.length : Int) + 1)) != 0) = true := bne_iff_ne.mpr c9
        replace H := Option.bind_eq_some_iff.mp H
        obtain ⟨t105, A100, H⟩ := H
        replace H : (if a2 = true then (if (t105 == false) = true then ((admit_Free.f l0 (Int.tmod (wrap64 (a1)) (wrap64 ((l0.length : Int) + 1))) (Int.tmod (wrap64 (a1)) (wrap64 ((l0.length : Int) + 1)))).bind fun t106 => (some (!t106))) else (some false)) else (if a3 = true then (if (t105 == ((l0.length : Int) == 0)) = true then ((admit_Free.f l0 (Int.tmod (wrap64 (a1)) (wrap64 ((l0.length : Int) + 1))) (Int.tmod (wrap64 (a1)) (wrap64 ((l0.length : Int) + 1)))).bind fun t107 => (some (!t107))) else (some false)) else (if (t105 == true) = true then ((admit_Free.f l0 (Int.tmod (wrap64 (a1)) (wrap64 ((l0.length : Int) + 1))) (Int.tmod (wrap64 (a1)) (wrap64 ((l0.length : Int) + 1)))).bind fun t108 => (some (!t108))) else (some false)))) = some r := H
        have A10 := Aside0.mk A100
        clear A100
        by_cases c11 : a2 = true
        · subst c11
          have H1 : (if (t105 == false) = true then ((admit_Free.f l0 (Int.tmod (wrap64 (a1)) (wrap64 ((l0.length : Int) + 1))) (Int.tmod (wrap64 (a1)) (wrap64 ((l0.length : Int) + 1)))).bind fun t106 => (some (!t106))) else (some false)) = some r := by rw [if_pos rfl] at H; exact H
          clear H
          have H := H1
          clear H1
          by_cases c12 : (t105 == false) = true
          · rw [if_pos c12] at H
            have c12b0 : (t105 == false) = true := c12
            (try (have c12b1 : decide (t105 = false) = true := by simpa using c12))
            (try (have c12b2 : (t105 == false) = true := by simpa using c12))
            clear c12
            replace H := Option.bind_eq_some_iff.mp H
            obtain ⟨t106, A130, H⟩ := H
            replace H : (some (!t106)) = some r := H
            have A13 := Aside0.mk A130
            clear A130
            obtain rfl := Option.some.inj H
            go_enter Try.func3, Try.ntmps3
            go_wp2_with (first | ((with_reducible refine gate_callee (f := 8) rfl ?_); refine goesL_ (some 12) rfl rfl Try.func8 (by kernel_rfl) rfl #[] rfl (by (try simp only [List.map_toArray, List.map_cons, List.map_nil]); first | done | rfl | (simp only [List.length_drop, List.length_take]; rfl)) ?_; (with_reducible refine (seinelaw22_awake.calls  true _ A5.out).mono ?_); rintro e w14 ⟨rfl, hb⟩; refine ⟨_, rfl, ?_⟩; have n0_ := Aside0.mk (below_step (by repeat (first | (with_reducible first | exact HB.out | apply below_alloc | apply pw_below_drewN | apply below_drew1) | exact HB.out)) hb); clear HB; have HB := n0_; clear n0_; (try clear hb); (try clear hb2); (try clear hk); (try clear hi)) | ((with_reducible refine gate_dst (N := 11) rfl ?_); (try (refine gate_guard (by rfl) ?_; dsimp only)); refine box_event ?hg (N := 11) ?hd (cs := #[.int .i64 0, .int .i64 0]) (t := 26) ?hr ?_; (case hd => rfl); (case hg => rfl); (case hr => first | (go_simp; done) | (go_simp; rfl)); intro gb104 hg w15 hbox hb; have n0_ := Aside0.mk (below_step (by repeat (first | (with_reducible first | exact HB.out | apply below_alloc | apply pw_below_drewN | apply below_drew1) | exact HB.out)) hb); have n1_ := Aside0.mk (hbox); have n2_ := Aside0.mk ((by rw [hg]; exact (below_size (by repeat (first | (with_reducible first | exact HB.out | apply below_alloc | apply pw_below_drewN | apply below_drew1) | exact HB.out))) : w.heap.size ≤ gb104)); have n3_ := Aside0.mk ((by rw [hg]; exact (below_size (by repeat (first | (with_reducible first | exact HB.out | apply below_alloc | apply pw_below_drewN | apply below_drew1) | exact HB.out))) : w.heap.size ≤ gb104)); clear HB; have HB := n0_; have BK104 := n1_; have GW104 := n2_; have GE104 := n3_; clear n0_ n1_ n2_ n3_; clear hb hbox hg; have hcz16_0 : w15.cell? ⟨gb104, 0, none⟩ = some (.int .i64 0) := (blk_cell BK104.out 0).trans rfl; have hcz16_1 : w15.cell? ⟨gb104, 1, none⟩ = some (.int .i64 0) := (blk_cell BK104.out 1).trans rfl; have hfz16_0 := blk_frozen BK104.out 0; have hfz16_1 := blk_frozen BK104.out 1) | ((with_reducible refine gate_callee (f := 9) rfl ?_); refine goesL_ (some 31) rfl rfl Try.func9 (by kernel_rfl) rfl #[.slice A0 l0.length c0, .agg #[.int .i64 (Int.tmod (wrap64 (a1)) (wrap64 ((l0.length : Int) + 1))), .int .i64 (Int.tmod (wrap64 (a1)) (wrap64 ((l0.length : Int) + 1)))], .bool true, .bool a3] rfl (by (try simp only [List.map_toArray, List.map_cons, List.map_nil]); first | done | rfl | (simp only [List.length_drop, List.length_take]; rfl)) ?_; (with_reducible refine (admit_May.calls _ _ l0 (Int.tmod (wrap64 (a1)) (wrap64 ((l0.length : Int) + 1))) (Int.tmod (wrap64 (a1)) (wrap64 ((l0.length : Int) + 1))) true a3 t105 _ ?side1 ?side2 A10.out).mono ?_); (case side1 => exact Kd.C_below HR0.out (by repeat (first | (with_reducible first | exact HB.out | apply below_alloc | apply pw_below_drewN | apply below_drew1 | refine below_set ?_ GE104.out) | exact HB.out))); (case side2 => exact HC0.out); rintro e w17 ⟨rfl, hb⟩; refine ⟨_, rfl, ?_⟩; have n0_ := Aside0.mk (blk_below (g := gb104) (o := .cells #[.int .i64 (Int.tmod (wrap64 (a1)) (wrap64 ((l0.length : Int) + 1))), .int .i64 (Int.tmod (wrap64 (a1)) (wrap64 ((l0.length : Int) + 1)))] 26 (0, 0)) (by (with_reducible repeat (first | refine blk_drewN ?_ _ | refine blk_drew ?_ | refine blk_alloc ?_ _)); refine blk_put (cs := #[.int .i64 (Int.tmod (wrap64 (a1)) (wrap64 ((l0.length : Int) + 1))), .int .i64 0]) ?_ 1 _ rfl; (with_reducible repeat (first | refine blk_drewN ?_ _ | refine blk_drew ?_ | refine blk_alloc ?_ _)); refine blk_put (cs := #[.int .i64 0, .int .i64 0]) ?_ 0 _ rfl; (with_reducible repeat (first | refine blk_drewN ?_ _ | refine blk_drew ?_ | refine blk_alloc ?_ _)); exact BK104.out) hb); have n1_ := Aside0.mk (below_step (by repeat (first | (with_reducible first | exact HB.out | apply below_alloc | apply pw_below_drewN | apply below_drew1 | refine below_set ?_ GE104.out) | exact HB.out)) hb); clear BK104; clear HB; have BK104 := n0_; have HB := n1_; clear n0_ n1_; (try clear hb); (try clear hb2); (try clear hk); (try clear hi); have hcz18_0 : w17.cell? ⟨gb104, 0, none⟩ = some (.int .i64 (Int.tmod (wrap64 (a1)) (wrap64 ((l0.length : Int) + 1)))) := (blk_cell BK104.out 0).trans rfl; have hcz18_1 : w17.cell? ⟨gb104, 1, none⟩ = some (.int .i64 (Int.tmod (wrap64 (a1)) (wrap64 ((l0.length : Int) + 1)))) := (blk_cell BK104.out 1).trans rfl; have hfz18_0 := blk_frozen BK104.out 0; have hfz18_1 := blk_frozen BK104.out 1) | (go_at_call 10; (with_reducible refine (admit_Free.calls _ _ l0 (Int.tmod (wrap64 (a1)) (wrap64 ((l0.length : Int) + 1))) (Int.tmod (wrap64 (a1)) (wrap64 ((l0.length : Int) + 1))) t106 _ ?side1 ?side2 A13.out).mono ?_); (case side1 => repeat (first | exact (Kd.C_below HR0.out HB.out) | (with_reducible refine Kd.C_alloc ?_ _) | (with_reducible refine Kd.C_drewN ?_ _) | (with_reducible refine Kd.C_drew ?_))); (case side2 => exact HC0.out); rintro e w19 ⟨rfl, hb⟩; have n0_ := Aside0.mk (blk_below (g := gb104) (o := .cells #[.int .i64 (Int.tmod (wrap64 (a1)) (wrap64 ((l0.length : Int) + 1))), .int .i64 (Int.tmod (wrap64 (a1)) (wrap64 ((l0.length : Int) + 1)))] 26 (0, 0)) (by (with_reducible repeat (first | refine blk_drewN ?_ _ | refine blk_drew ?_ | refine blk_alloc ?_ _)); exact BK104.out) hb); have n1_ := Aside0.mk (below_step (by repeat (first | (with_reducible first | exact HB.out | apply below_alloc | apply pw_below_drewN | apply below_drew1 | refine below_set ?_ GE104.out) | exact HB.out)) hb); clear BK104; clear HB; have BK104 := n0_; have HB := n1_; clear n0_ n1_; (try clear hb); (try clear hb2); (try clear hk); (try clear hi)))
            go_ret
            exact ⟨by first | rfl | (simp [errW_none, errW_some] <;> rfl) | (simp [*, errW_none, errW_some] <;> rfl), by repeat (first | (with_reducible first | exact HB.out | apply below_alloc | apply pw_below_drewN | apply below_drew1 | refine below_set ?_ GE104.out) | exact HB.out)⟩
          · rw [if_neg c12] at H
            have c12b0 : (t105 == false) = false := by simpa using c12
            (try (have c12b1 : decide (t105 = false) = false := by simpa using c12))
            (try (have c12b2 : (t105 == false) = false := by simpa using c12))
            (try (have c12b3 : ¬ (t105 = false) := by simpa using c12))
            clear c12
            obtain rfl := Option.some.inj H
            go_enter Try.func3, Try.ntmps3
            go_wp2_with (first | ((with_reducible refine gate_callee (f := 8) rfl ?_); refine goesL_ (some 12) rfl rfl Try.func8 (by kernel_rfl) rfl #[] rfl (by (try simp only [List.map_toArray, List.map_cons, List.map_nil]); first | done | rfl | (simp only [List.length_drop, List.length_take]; rfl)) ?_; (with_reducible refine (seinelaw22_awake.calls  true _ A5.out).mono ?_); rintro e w20 ⟨rfl, hb⟩; refine ⟨_, rfl, ?_⟩; have n0_ := Aside0.mk (below_step (by repeat (first | (with_reducible first | exact HB.out | apply below_alloc | apply pw_below_drewN | apply below_drew1) | exact HB.out)) hb); clear HB; have HB := n0_; clear n0_; (try clear hb); (try clear hb2); (try clear hk); (try clear hi)) | ((with_reducible refine gate_dst (N := 11) rfl ?_); (try (refine gate_guard (by rfl) ?_; dsimp only)); refine box_event ?hg (N := 11) ?hd (cs := #[.int .i64 0, .int .i64 0]) (t := 26) ?hr ?_; (case hd => rfl); (case hg => rfl); (case hr => first | (go_simp; done) | (go_simp; rfl)); intro gb104 hg w21 hbox hb; have n0_ := Aside0.mk (below_step (by repeat (first | (with_reducible first | exact HB.out | apply below_alloc | apply pw_below_drewN | apply below_drew1) | exact HB.out)) hb); have n1_ := Aside0.mk (hbox); have n2_ := Aside0.mk ((by rw [hg]; exact (below_size (by repeat (first | (with_reducible first | exact HB.out | apply below_alloc | apply pw_below_drewN | apply below_drew1) | exact HB.out))) : w.heap.size ≤ gb104)); have n3_ := Aside0.mk ((by rw [hg]; exact (below_size (by repeat (first | (with_reducible first | exact HB.out | apply below_alloc | apply pw_below_drewN | apply below_drew1) | exact HB.out))) : w.heap.size ≤ gb104)); clear HB; have HB := n0_; have BK104 := n1_; have GW104 := n2_; have GE104 := n3_; clear n0_ n1_ n2_ n3_; clear hb hbox hg; have hcz22_0 : w21.cell? ⟨gb104, 0, none⟩ = some (.int .i64 0) := (blk_cell BK104.out 0).trans rfl; have hcz22_1 : w21.cell? ⟨gb104, 1, none⟩ = some (.int .i64 0) := (blk_cell BK104.out 1).trans rfl; have hfz22_0 := blk_frozen BK104.out 0; have hfz22_1 := blk_frozen BK104.out 1) | ((with_reducible refine gate_callee (f := 9) rfl ?_); refine goesL_ (some 31) rfl rfl Try.func9 (by kernel_rfl) rfl #[.slice A0 l0.length c0, .agg #[.int .i64 (Int.tmod (wrap64 (a1)) (wrap64 ((l0.length : Int) + 1))), .int .i64 (Int.tmod (wrap64 (a1)) (wrap64 ((l0.length : Int) + 1)))], .bool true, .bool a3] rfl (by (try simp only [List.map_toArray, List.map_cons, List.map_nil]); first | done | rfl | (simp only [List.length_drop, List.length_take]; rfl)) ?_; (with_reducible refine (admit_May.calls _ _ l0 (Int.tmod (wrap64 (a1)) (wrap64 ((l0.length : Int) + 1))) (Int.tmod (wrap64 (a1)) (wrap64 ((l0.length : Int) + 1))) true a3 t105 _ ?side1 ?side2 A10.out).mono ?_); (case side1 => exact Kd.C_below HR0.out (by repeat (first | (with_reducible first | exact HB.out | apply below_alloc | apply pw_below_drewN | apply below_drew1 | refine below_set ?_ GE104.out) | exact HB.out))); (case side2 => exact HC0.out); rintro e w23 ⟨rfl, hb⟩; refine ⟨_, rfl, ?_⟩; have n0_ := Aside0.mk (blk_below (g := gb104) (o := .cells #[.int .i64 (Int.tmod (wrap64 (a1)) (wrap64 ((l0.length : Int) + 1))), .int .i64 (Int.tmod (wrap64 (a1)) (wrap64 ((l0.length : Int) + 1)))] 26 (0, 0)) (by (with_reducible repeat (first | refine blk_drewN ?_ _ | refine blk_drew ?_ | refine blk_alloc ?_ _)); refine blk_put (cs := #[.int .i64 (Int.tmod (wrap64 (a1)) (wrap64 ((l0.length : Int) + 1))), .int .i64 0]) ?_ 1 _ rfl; (with_reducible repeat (first | refine blk_drewN ?_ _ | refine blk_drew ?_ | refine blk_alloc ?_ _)); refine blk_put (cs := #[.int .i64 0, .int .i64 0]) ?_ 0 _ rfl; (with_reducible repeat (first | refine blk_drewN ?_ _ | refine blk_drew ?_ | refine blk_alloc ?_ _)); exact BK104.out) hb); have n1_ := Aside0.mk (below_step (by repeat (first | (with_reducible first | exact HB.out | apply below_alloc | apply pw_below_drewN | apply below_drew1 | refine below_set ?_ GE104.out) | exact HB.out)) hb); clear BK104; clear HB; have BK104 := n0_; have HB := n1_; clear n0_ n1_; (try clear hb); (try clear hb2); (try clear hk); (try clear hi)))
            go_ret
            exact ⟨by first | rfl | (simp [errW_none, errW_some] <;> rfl) | (simp [*, errW_none, errW_some] <;> rfl), by repeat (first | (with_reducible first | exact HB.out | apply below_alloc | apply pw_below_drewN | apply below_drew1 | refine below_set ?_ GE104.out) | exact HB.out)⟩
        · replace c11 := Bool.eq_false_iff.mpr c11
          subst c11
          have H1 : (if a3 = true then (if (t105 == ((l0.length : Int) == 0)) = true then ((admit_Free.f l0 (Int.tmod (wrap64 (a1)) (wrap64 ((l0.length : Int) + 1))) (Int.tmod (wrap64 (a1)) (wrap64 ((l0.length : Int) + 1)))).bind fun t107 => (some (!t107))) else (some false)) else (if (t105 == true) = true then ((admit_Free.f l0 (Int.tmod (wrap64 (a1)) (wrap64 ((l0.length : Int) + 1))) (Int.tmod (wrap64 (a1)) (wrap64 ((l0.length : Int) + 1)))).bind fun t108 => (some (!t108))) else (some false))) = some r := by rw [if_neg (show ¬ (false = true) by decide)] at H; exact H
          clear H
          have H := H1
          clear H1
          by_cases c24 : a3 = true
          · subst c24
            have H1 : (if (t105 == ((l0.length : Int) == 0)) = true then ((admit_Free.f l0 (Int.tmod (wrap64 (a1)) (wrap64 ((l0.length : Int) + 1))) (Int.tmod (wrap64 (a1)) (wrap64 ((l0.length : Int) + 1)))).bind fun t107 => (some (!t107))) else (some false)) = some r := by rw [if_pos rfl] at H; exact H
            clear H
            have H := H1
            clear H1
            by_cases c25 : (t105 == ((l0.length : Int) == 0)) = true
            · rw [if_pos c25] at H
              have c25b0 : (t105 == ((l0.length : Int) == 0)) = true := c25
              (try (have c25b1 : decide (t105 = ((l0.length : Int) == 0)) = true := by simpa using c25))
              (try (have c25b2 : (t105 == ((l0.length : Int) == 0)) = true := by simpa using c25))
              clear c25
              replace H := Option.bind_eq_some_iff.mp H
              obtain ⟨t107, A260, H⟩ := H
              replace H : (some (!t107)) = some r := H
              have A26 := Aside0.mk A260
              clear A260
              obtain rfl := Option.some.inj H
              go_enter Try.func3, Try.ntmps3
              go_wp2_with (first | ((with_reducible refine gate_callee (f := 8) rfl ?_); refine goesL_ (some 12) rfl rfl Try.func8 (by kernel_rfl) rfl #[] rfl (by (try simp only [List.map_toArray, List.map_cons, List.map_nil]); first | done | rfl | (simp only [List.length_drop, List.length_take]; rfl)) ?_; (with_reducible refine (seinelaw22_awake.calls  true _ A5.out).mono ?_); rintro e w27 ⟨rfl, hb⟩; refine ⟨_, rfl, ?_⟩; have n0_ := Aside0.mk (below_step (by repeat (first | (with_reducible first | exact HB.out | apply below_alloc | apply pw_below_drewN | apply below_drew1) | exact HB.out)) hb); clear HB; have HB := n0_; clear n0_; (try clear hb); (try clear hb2); (try clear hk); (try clear hi)) | ((with_reducible refine gate_dst (N := 11) rfl ?_); (try (refine gate_guard (by rfl) ?_; dsimp only)); refine box_event ?hg (N := 11) ?hd (cs := #[.int .i64 0, .int .i64 0]) (t := 26) ?hr ?_; (case hd => rfl); (case hg => rfl); (case hr => first | (go_simp; done) | (go_simp; rfl)); intro gb104 hg w28 hbox hb; have n0_ := Aside0.mk (below_step (by repeat (first | (with_reducible first | exact HB.out | apply below_alloc | apply pw_below_drewN | apply below_drew1) | exact HB.out)) hb); have n1_ := Aside0.mk (hbox); have n2_ := Aside0.mk ((by rw [hg]; exact (below_size (by repeat (first | (with_reducible first | exact HB.out | apply below_alloc | apply pw_below_drewN | apply below_drew1) | exact HB.out))) : w.heap.size ≤ gb104)); have n3_ := Aside0.mk ((by rw [hg]; exact (below_size (by repeat (first | (with_reducible first | exact HB.out | apply below_alloc | apply pw_below_drewN | apply below_drew1) | exact HB.out))) : w.heap.size ≤ gb104)); clear HB; have HB := n0_; have BK104 := n1_; have GW104 := n2_; have GE104 := n3_; clear n0_ n1_ n2_ n3_; clear hb hbox hg; have hcz29_0 : w28.cell? ⟨gb104, 0, none⟩ = some (.int .i64 0) := (blk_cell BK104.out 0).trans rfl; have hcz29_1 : w28.cell? ⟨gb104, 1, none⟩ = some (.int .i64 0) := (blk_cell BK104.out 1).trans rfl; have hfz29_0 := blk_frozen BK104.out 0; have hfz29_1 := blk_frozen BK104.out 1) | ((with_reducible refine gate_callee (f := 9) rfl ?_); refine goesL_ (some 31) rfl rfl Try.func9 (by kernel_rfl) rfl #[.slice A0 l0.length c0, .agg #[.int .i64 (Int.tmod (wrap64 (a1)) (wrap64 ((l0.length : Int) + 1))), .int .i64 (Int.tmod (wrap64 (a1)) (wrap64 ((l0.length : Int) + 1)))], .bool false, .bool true] rfl (by (try simp only [List.map_toArray, List.map_cons, List.map_nil]); first | done | rfl | (simp only [List.length_drop, List.length_take]; rfl)) ?_; (with_reducible refine (admit_May.calls _ _ l0 (Int.tmod (wrap64 (a1)) (wrap64 ((l0.length : Int) + 1))) (Int.tmod (wrap64 (a1)) (wrap64 ((l0.length : Int) + 1))) false true t105 _ ?side1 ?side2 A10.out).mono ?_); (case side1 => exact Kd.C_below HR0.out (by repeat (first | (with_reducible first | exact HB.out | apply below_alloc | apply pw_below_drewN | apply below_drew1 | refine below_set ?_ GE104.out) | exact HB.out))); (case side2 => exact HC0.out); rintro e w30 ⟨rfl, hb⟩; refine ⟨_, rfl, ?_⟩; have n0_ := Aside0.mk (blk_below (g := gb104) (o := .cells #[.int .i64 (Int.tmod (wrap64 (a1)) (wrap64 ((l0.length : Int) + 1))), .int .i64 (Int.tmod (wrap64 (a1)) (wrap64 ((l0.length : Int) + 1)))] 26 (0, 0)) (by (with_reducible repeat (first | refine blk_drewN ?_ _ | refine blk_drew ?_ | refine blk_alloc ?_ _)); refine blk_put (cs := #[.int .i64 (Int.tmod (wrap64 (a1)) (wrap64 ((l0.length : Int) + 1))), .int .i64 0]) ?_ 1 _ rfl; (with_reducible repeat (first | refine blk_drewN ?_ _ | refine blk_drew ?_ | refine blk_alloc ?_ _)); refine blk_put (cs := #[.int .i64 0, .int .i64 0]) ?_ 0 _ rfl; (with_reducible repeat (first | refine blk_drewN ?_ _ | refine blk_drew ?_ | refine blk_alloc ?_ _)); exact BK104.out) hb); have n1_ := Aside0.mk (below_step (by repeat (first | (with_reducible first | exact HB.out | apply below_alloc | apply pw_below_drewN | apply below_drew1 | refine below_set ?_ GE104.out) | exact HB.out)) hb); clear BK104; clear HB; have BK104 := n0_; have HB := n1_; clear n0_ n1_; (try clear hb); (try clear hb2); (try clear hk); (try clear hi); have hcz31_0 : w30.cell? ⟨gb104, 0, none⟩ = some (.int .i64 (Int.tmod (wrap64 (a1)) (wrap64 ((l0.length : Int) + 1)))) := (blk_cell BK104.out 0).trans rfl; have hcz31_1 : w30.cell? ⟨gb104, 1, none⟩ = some (.int .i64 (Int.tmod (wrap64 (a1)) (wrap64 ((l0.length : Int) + 1)))) := (blk_cell BK104.out 1).trans rfl; have hfz31_0 := blk_frozen BK104.out 0; have hfz31_1 := blk_frozen BK104.out 1) | (go_at_call 10; (with_reducible refine (admit_Free.calls _ _ l0 (Int.tmod (wrap64 (a1)) (wrap64 ((l0.length : Int) + 1))) (Int.tmod (wrap64 (a1)) (wrap64 ((l0.length : Int) + 1))) t107 _ ?side1 ?side2 A26.out).mono ?_); (case side1 => repeat (first | exact (Kd.C_below HR0.out HB.out) | (with_reducible refine Kd.C_alloc ?_ _) | (with_reducible refine Kd.C_drewN ?_ _) | (with_reducible refine Kd.C_drew ?_))); (case side2 => exact HC0.out); rintro e w32 ⟨rfl, hb⟩; have n0_ := Aside0.mk (blk_below (g := gb104) (o := .cells #[.int .i64 (Int.tmod (wrap64 (a1)) (wrap64 ((l0.length : Int) + 1))), .int .i64 (Int.tmod (wrap64 (a1)) (wrap64 ((l0.length : Int) + 1)))] 26 (0, 0)) (by (with_reducible repeat (first | refine blk_drewN ?_ _ | refine blk_drew ?_ | refine blk_alloc ?_ _)); exact BK104.out) hb); have n1_ := Aside0.mk (below_step (by repeat (first | (with_reducible first | exact HB.out | apply below_alloc | apply pw_below_drewN | apply below_drew1 | refine below_set ?_ GE104.out) | exact HB.out)) hb); clear BK104; clear HB; have BK104 := n0_; have HB := n1_; clear n0_ n1_; (try clear hb); (try clear hb2); (try clear hk); (try clear hi)))
              go_ret
              exact ⟨by first | rfl | (simp [errW_none, errW_some] <;> rfl) | (simp [*, errW_none, errW_some] <;> rfl), by repeat (first | (with_reducible first | exact HB.out | apply below_alloc | apply pw_below_drewN | apply below_drew1 | refine below_set ?_ GE104.out) | exact HB.out)⟩
            · rw [if_neg c25] at H
              have c25b0 : (t105 == ((l0.length : Int) == 0)) = false := by simpa using c25
              (try (have c25b1 : decide (t105 = ((l0.length : Int) == 0)) = false := by simpa using c25))
              (try (have c25b2 : (t105 == ((l0.length : Int) == 0)) = false := by simpa using c25))
              (try (have c25b3 : ¬ (t105 = ((l0.length : Int) == 0)) := by simpa using c25))
              clear c25
              obtain rfl := Option.some.inj H
              go_enter Try.func3, Try.ntmps3
              go_wp2_with (first | ((with_reducible refine gate_callee (f := 8) rfl ?_); refine goesL_ (some 12) rfl rfl Try.func8 (by kernel_rfl) rfl #[] rfl (by (try simp only [List.map_toArray, List.map_cons, List.map_nil]); first | done | rfl | (simp only [List.length_drop, List.length_take]; rfl)) ?_; (with_reducible refine (seinelaw22_awake.calls  true _ A5.out).mono ?_); rintro e w33 ⟨rfl, hb⟩; refine ⟨_, rfl, ?_⟩; have n0_ := Aside0.mk (below_step (by repeat (first | (with_reducible first | exact HB.out | apply below_alloc | apply pw_below_drewN | apply below_drew1) | exact HB.out)) hb); clear HB; have HB := n0_; clear n0_; (try clear hb); (try clear hb2); (try clear hk); (try clear hi)) | ((with_reducible refine gate_dst (N := 11) rfl ?_); (try (refine gate_guard (by rfl) ?_; dsimp only)); refine box_event ?hg (N := 11) ?hd (cs := #[.int .i64 0, .int .i64 0]) (t := 26) ?hr ?_; (case hd => rfl); (case hg => rfl); (case hr => first | (go_simp; done) | (go_simp; rfl)); intro gb104 hg w34 hbox hb; have n0_ := Aside0.mk (below_step (by repeat (first | (with_reducible first | exact HB.out | apply below_alloc | apply pw_below_drewN | apply below_drew1) | exact HB.out)) hb); have n1_ := Aside0.mk (hbox); have n2_ := Aside0.mk ((by rw [hg]; exact (below_size (by repeat (first | (with_reducible first | exact HB.out | apply below_alloc | apply pw_below_drewN | apply below_drew1) | exact HB.out))) : w.heap.size ≤ gb104)); have n3_ := Aside0.mk ((by rw [hg]; exact (below_size (by repeat (first | (with_reducible first | exact HB.out | apply below_alloc | apply pw_below_drewN | apply below_drew1) | exact HB.out))) : w.heap.size ≤ gb104)); clear HB; have HB := n0_; have BK104 := n1_; have GW104 := n2_; have GE104 := n3_; clear n0_ n1_ n2_ n3_; clear hb hbox hg; have hcz35_0 : w34.cell? ⟨gb104, 0, none⟩ = some (.int .i64 0) := (blk_cell BK104.out 0).trans rfl; have hcz35_1 : w34.cell? ⟨gb104, 1, none⟩ = some (.int .i64 0) := (blk_cell BK104.out 1).trans rfl; have hfz35_0 := blk_frozen BK104.out 0; have hfz35_1 := blk_frozen BK104.out 1) | ((with_reducible refine gate_callee (f := 9) rfl ?_); refine goesL_ (some 31) rfl rfl Try.func9 (by kernel_rfl) rfl #[.slice A0 l0.length c0, .agg #[.int .i64 (Int.tmod (wrap64 (a1)) (wrap64 ((l0.length : Int) + 1))), .int .i64 (Int.tmod (wrap64 (a1)) (wrap64 ((l0.length : Int) + 1)))], .bool false, .bool true] rfl (by (try simp only [List.map_toArray, List.map_cons, List.map_nil]); first | done | rfl | (simp only [List.length_drop, List.length_take]; rfl)) ?_; (with_reducible refine (admit_May.calls _ _ l0 (Int.tmod (wrap64 (a1)) (wrap64 ((l0.length : Int) + 1))) (Int.tmod (wrap64 (a1)) (wrap64 ((l0.length : Int) + 1))) false true t105 _ ?side1 ?side2 A10.out).mono ?_); (case side1 => exact Kd.C_below HR0.out (by repeat (first | (with_reducible first | exact HB.out | apply below_alloc | apply pw_below_drewN | apply below_drew1 | refine below_set ?_ GE104.out) | exact HB.out))); (case side2 => exact HC0.out); rintro e w36 ⟨rfl, hb⟩; refine ⟨_, rfl, ?_⟩; have n0_ := Aside0.mk (blk_below (g := gb104) (o := .cells #[.int .i64 (Int.tmod (wrap64 (a1)) (wrap64 ((l0.length : Int) + 1))), .int .i64 (Int.tmod (wrap64 (a1)) (wrap64 ((l0.length : Int) + 1)))] 26 (0, 0)) (by (with_reducible repeat (first | refine blk_drewN ?_ _ | refine blk_drew ?_ | refine blk_alloc ?_ _)); refine blk_put (cs := #[.int .i64 (Int.tmod (wrap64 (a1)) (wrap64 ((l0.length : Int) + 1))), .int .i64 0]) ?_ 1 _ rfl; (with_reducible repeat (first | refine blk_drewN ?_ _ | refine blk_drew ?_ | refine blk_alloc ?_ _)); refine blk_put (cs := #[.int .i64 0, .int .i64 0]) ?_ 0 _ rfl; (with_reducible repeat (first | refine blk_drewN ?_ _ | refine blk_drew ?_ | refine blk_alloc ?_ _)); exact BK104.out) hb); have n1_ := Aside0.mk (below_step (by repeat (first | (with_reducible first | exact HB.out | apply below_alloc | apply pw_below_drewN | apply below_drew1 | refine below_set ?_ GE104.out) | exact HB.out)) hb); clear BK104; clear HB; have BK104 := n0_; have HB := n1_; clear n0_ n1_; (try clear hb); (try clear hb2); (try clear hk); (try clear hi)))
              go_ret
              exact ⟨by first | rfl | (simp [errW_none, errW_some] <;> rfl) | (simp [*, errW_none, errW_some] <;> rfl), by repeat (first | (with_reducible first | exact HB.out | apply below_alloc | apply pw_below_drewN | apply below_drew1 | refine below_set ?_ GE104.out) | exact HB.out)⟩
          · replace c24 := Bool.eq_false_iff.mpr c24
            subst c24
            have H1 : (if (t105 == true) = true then ((admit_Free.f l0 (Int.tmod (wrap64 (a1)) (wrap64 ((l0.length : Int) + 1))) (Int.tmod (wrap64 (a1)) (wrap64 ((l0.length : Int) + 1)))).bind fun t108 => (some (!t108))) else (some false)) = some r := by rw [if_neg (show ¬ (false = true) by decide)] at H; exact H
            clear H
            have H := H1
            clear H1
            by_cases c37 : (t105 == true) = true
            · rw [if_pos c37] at H
              have c37b0 : (t105 == true) = true := c37
              (try (have c37b1 : decide (t105 = true) = true := by simpa using c37))
              (try (have c37b2 : (t105 == true) = true := by simpa using c37))
              clear c37
              replace H := Option.bind_eq_some_iff.mp H
              obtain ⟨t108, A380, H⟩ := H
              replace H : (some (!t108)) = some r := H
              have A38 := Aside0.mk A380
              clear A380
              obtain rfl := Option.some.inj H
              go_enter Try.func3, Try.ntmps3
              go_wp2_with (first | ((with_reducible refine gate_callee (f := 8) rfl ?_); refine goesL_ (some 12) rfl rfl Try.func8 (by kernel_rfl) rfl #[] rfl (by (try simp only [List.map_toArray, List.map_cons, List.map_nil]); first | done | rfl | (simp only [List.length_drop, List.length_take]; rfl)) ?_; (with_reducible refine (seinelaw22_awake.calls  true _ A5.out).mono ?_); rintro e w39 ⟨rfl, hb⟩; refine ⟨_, rfl, ?_⟩; have n0_ := Aside0.mk (below_step (by repeat (first | (with_reducible first | exact HB.out | apply below_alloc | apply pw_below_drewN | apply below_drew1) | exact HB.out)) hb); clear HB; have HB := n0_; clear n0_; (try clear hb); (try clear hb2); (try clear hk); (try clear hi)) | ((with_reducible refine gate_dst (N := 11) rfl ?_); (try (refine gate_guard (by rfl) ?_; dsimp only)); refine box_event ?hg (N := 11) ?hd (cs := #[.int .i64 0, .int .i64 0]) (t := 26) ?hr ?_; (case hd => rfl); (case hg => rfl); (case hr => first | (go_simp; done) | (go_simp; rfl)); intro gb104 hg w40 hbox hb; have n0_ := Aside0.mk (below_step (by repeat (first | (with_reducible first | exact HB.out | apply below_alloc | apply pw_below_drewN | apply below_drew1) | exact HB.out)) hb); have n1_ := Aside0.mk (hbox); have n2_ := Aside0.mk ((by rw [hg]; exact (below_size (by repeat (first | (with_reducible first | exact HB.out | apply below_alloc | apply pw_below_drewN | apply below_drew1) | exact HB.out))) : w.heap.size ≤ gb104)); have n3_ := Aside0.mk ((by rw [hg]; exact (below_size (by repeat (first | (with_reducible first | exact HB.out | apply below_alloc | apply pw_below_drewN | apply below_drew1) | exact HB.out))) : w.heap.size ≤ gb104)); clear HB; have HB := n0_; have BK104 := n1_; have GW104 := n2_; have GE104 := n3_; clear n0_ n1_ n2_ n3_; clear hb hbox hg; have hcz41_0 : w40.cell? ⟨gb104, 0, none⟩ = some (.int .i64 0) := (blk_cell BK104.out 0).trans rfl; have hcz41_1 : w40.cell? ⟨gb104, 1, none⟩ = some (.int .i64 0) := (blk_cell BK104.out 1).trans rfl; have hfz41_0 := blk_frozen BK104.out 0; have hfz41_1 := blk_frozen BK104.out 1) | ((with_reducible refine gate_callee (f := 9) rfl ?_); refine goesL_ (some 31) rfl rfl Try.func9 (by kernel_rfl) rfl #[.slice A0 l0.length c0, .agg #[.int .i64 (Int.tmod (wrap64 (a1)) (wrap64 ((l0.length : Int) + 1))), .int .i64 (Int.tmod (wrap64 (a1)) (wrap64 ((l0.length : Int) + 1)))], .bool false, .bool false] rfl (by (try simp only [List.map_toArray, List.map_cons, List.map_nil]); first | done | rfl | (simp only [List.length_drop, List.length_take]; rfl)) ?_; (with_reducible refine (admit_May.calls _ _ l0 (Int.tmod (wrap64 (a1)) (wrap64 ((l0.length : Int) + 1))) (Int.tmod (wrap64 (a1)) (wrap64 ((l0.length : Int) + 1))) false false t105 _ ?side1 ?side2 A10.out).mono ?_); (case side1 => exact Kd.C_below HR0.out (by repeat (first | (with_reducible first | exact HB.out | apply below_alloc | apply pw_below_drewN | apply below_drew1 | refine below_set ?_ GE104.out) | exact HB.out))); (case side2 => exact HC0.out); rintro e w42 ⟨rfl, hb⟩; refine ⟨_, rfl, ?_⟩; have n0_ := Aside0.mk (blk_below (g := gb104) (o := .cells #[.int .i64 (Int.tmod (wrap64 (a1)) (wrap64 ((l0.length : Int) + 1))), .int .i64 (Int.tmod (wrap64 (a1)) (wrap64 ((l0.length : Int) + 1)))] 26 (0, 0)) (by (with_reducible repeat (first | refine blk_drewN ?_ _ | refine blk_drew ?_ | refine blk_alloc ?_ _)); refine blk_put (cs := #[.int .i64 (Int.tmod (wrap64 (a1)) (wrap64 ((l0.length : Int) + 1))), .int .i64 0]) ?_ 1 _ rfl; (with_reducible repeat (first | refine blk_drewN ?_ _ | refine blk_drew ?_ | refine blk_alloc ?_ _)); refine blk_put (cs := #[.int .i64 0, .int .i64 0]) ?_ 0 _ rfl; (with_reducible repeat (first | refine blk_drewN ?_ _ | refine blk_drew ?_ | refine blk_alloc ?_ _)); exact BK104.out) hb); have n1_ := Aside0.mk (below_step (by repeat (first | (with_reducible first | exact HB.out | apply below_alloc | apply pw_below_drewN | apply below_drew1 | refine below_set ?_ GE104.out) | exact HB.out)) hb); clear BK104; clear HB; have BK104 := n0_; have HB := n1_; clear n0_ n1_; (try clear hb); (try clear hb2); (try clear hk); (try clear hi); have hcz43_0 : w42.cell? ⟨gb104, 0, none⟩ = some (.int .i64 (Int.tmod (wrap64 (a1)) (wrap64 ((l0.length : Int) + 1)))) := (blk_cell BK104.out 0).trans rfl; have hcz43_1 : w42.cell? ⟨gb104, 1, none⟩ = some (.int .i64 (Int.tmod (wrap64 (a1)) (wrap64 ((l0.length : Int) + 1)))) := (blk_cell BK104.out 1).trans rfl; have hfz43_0 := blk_frozen BK104.out 0; have hfz43_1 := blk_frozen BK104.out 1) | (go_at_call 10; (with_reducible refine (admit_Free.calls _ _ l0 (Int.tmod (wrap64 (a1)) (wrap64 ((l0.length : Int) + 1))) (Int.tmod (wrap64 (a1)) (wrap64 ((l0.length : Int) + 1))) t108 _ ?side1 ?side2 A38.out).mono ?_); (case side1 => repeat (first | exact (Kd.C_below HR0.out HB.out) | (with_reducible refine Kd.C_alloc ?_ _) | (with_reducible refine Kd.C_drewN ?_ _) | (with_reducible refine Kd.C_drew ?_))); (case side2 => exact HC0.out); rintro e w44 ⟨rfl, hb⟩; have n0_ := Aside0.mk (blk_below (g := gb104) (o := .cells #[.int .i64 (Int.tmod (wrap64 (a1)) (wrap64 ((l0.length : Int) + 1))), .int .i64 (Int.tmod (wrap64 (a1)) (wrap64 ((l0.length : Int) + 1)))] 26 (0, 0)) (by (with_reducible repeat (first | refine blk_drewN ?_ _ | refine blk_drew ?_ | refine blk_alloc ?_ _)); exact BK104.out) hb); have n1_ := Aside0.mk (below_step (by repeat (first | (with_reducible first | exact HB.out | apply below_alloc | apply pw_below_drewN | apply below_drew1 | refine below_set ?_ GE104.out) | exact HB.out)) hb); clear BK104; clear HB; have BK104 := n0_; have HB := n1_; clear n0_ n1_; (try clear hb); (try clear hb2); (try clear hk); (try clear hi)))
              go_ret
              exact ⟨by first | rfl | (simp [errW_none, errW_some] <;> rfl) | (simp [*, errW_none, errW_some] <;> rfl), by repeat (first | (with_reducible first | exact HB.out | apply below_alloc | apply pw_below_drewN | apply below_drew1 | refine below_set ?_ GE104.out) | exact HB.out)⟩
            · rw [if_neg c37] at H
              have c37b0 : (t105 == true) = false := by simpa using c37
              (try (have c37b1 : decide (t105 = true) = false := by simpa using c37))
              (try (have c37b2 : (t105 == true) = false := by simpa using c37))
              (try (have c37b3 : ¬ (t105 = true) := by simpa using c37))
              clear c37
              obtain rfl := Option.some.inj H
              go_enter Try.func3, Try.ntmps3
              go_wp2_with (first | ((with_reducible refine gate_callee (f := 8) rfl ?_); refine goesL_ (some 12) rfl rfl Try.func8 (by kernel_rfl) rfl #[] rfl (by (try simp only [List.map_toArray, List.map_cons, List.map_nil]); first | done | rfl | (simp only [List.length_drop, List.length_take]; rfl)) ?_; (with_reducible refine (seinelaw22_awake.calls  true _ A5.out).mono ?_); rintro e w45 ⟨rfl, hb⟩; refine ⟨_, rfl, ?_⟩; have n0_ := Aside0.mk (below_step (by repeat (first | (with_reducible first | exact HB.out | apply below_alloc | apply pw_below_drewN | apply below_drew1) | exact HB.out)) hb); clear HB; have HB := n0_; clear n0_; (try clear hb); (try clear hb2); (try clear hk); (try clear hi)) | ((with_reducible refine gate_dst (N := 11) rfl ?_); (try (refine gate_guard (by rfl) ?_; dsimp only)); refine box_event ?hg (N := 11) ?hd (cs := #[.int .i64 0, .int .i64 0]) (t := 26) ?hr ?_; (case hd => rfl); (case hg => rfl); (case hr => first | (go_simp; done) | (go_simp; rfl)); intro gb104 hg w46 hbox hb; have n0_ := Aside0.mk (below_step (by repeat (first | (with_reducible first | exact HB.out | apply below_alloc | apply pw_below_drewN | apply below_drew1) | exact HB.out)) hb); have n1_ := Aside0.mk (hbox); have n2_ := Aside0.mk ((by rw [hg]; exact (below_size (by repeat (first | (with_reducible first | exact HB.out | apply below_alloc | apply pw_below_drewN | apply below_drew1) | exact HB.out))) : w.heap.size ≤ gb104)); have n3_ := Aside0.mk ((by rw [hg]; exact (below_size (by repeat (first | (with_reducible first | exact HB.out | apply below_alloc | apply pw_below_drewN | apply below_drew1) | exact HB.out))) : w.heap.size ≤ gb104)); clear HB; have HB := n0_; have BK104 := n1_; have GW104 := n2_; have GE104 := n3_; clear n0_ n1_ n2_ n3_; clear hb hbox hg; have hcz47_0 : w46.cell? ⟨gb104, 0, none⟩ = some (.int .i64 0) := (blk_cell BK104.out 0).trans rfl; have hcz47_1 : w46.cell? ⟨gb104, 1, none⟩ = some (.int .i64 0) := (blk_cell BK104.out 1).trans rfl; have hfz47_0 := blk_frozen BK104.out 0; have hfz47_1 := blk_frozen BK104.out 1) | ((with_reducible refine gate_callee (f := 9) rfl ?_); refine goesL_ (some 31) rfl rfl Try.func9 (by kernel_rfl) rfl #[.slice A0 l0.length c0, .agg #[.int .i64 (Int.tmod (wrap64 (a1)) (wrap64 ((l0.length : Int) + 1))), .int .i64 (Int.tmod (wrap64 (a1)) (wrap64 ((l0.length : Int) + 1)))], .bool false, .bool false] rfl (by (try simp only [List.map_toArray, List.map_cons, List.map_nil]); first | done | rfl | (simp only [List.length_drop, List.length_take]; rfl)) ?_; (with_reducible refine (admit_May.calls _ _ l0 (Int.tmod (wrap64 (a1)) (wrap64 ((l0.length : Int) + 1))) (Int.tmod (wrap64 (a1)) (wrap64 ((l0.length : Int) + 1))) false false t105 _ ?side1 ?side2 A10.out).mono ?_); (case side1 => exact Kd.C_below HR0.out (by repeat (first | (with_reducible first | exact HB.out | apply below_alloc | apply pw_below_drewN | apply below_drew1 | refine below_set ?_ GE104.out) | exact HB.out))); (case side2 => exact HC0.out); rintro e w48 ⟨rfl, hb⟩; refine ⟨_, rfl, ?_⟩; have n0_ := Aside0.mk (blk_below (g := gb104) (o := .cells #[.int .i64 (Int.tmod (wrap64 (a1)) (wrap64 ((l0.length : Int) + 1))), .int .i64 (Int.tmod (wrap64 (a1)) (wrap64 ((l0.length : Int) + 1)))] 26 (0, 0)) (by (with_reducible repeat (first | refine blk_drewN ?_ _ | refine blk_drew ?_ | refine blk_alloc ?_ _)); refine blk_put (cs := #[.int .i64 (Int.tmod (wrap64 (a1)) (wrap64 ((l0.length : Int) + 1))), .int .i64 0]) ?_ 1 _ rfl; (with_reducible repeat (first | refine blk_drewN ?_ _ | refine blk_drew ?_ | refine blk_alloc ?_ _)); refine blk_put (cs := #[.int .i64 0, .int .i64 0]) ?_ 0 _ rfl; (with_reducible repeat (first | refine blk_drewN ?_ _ | refine blk_drew ?_ | refine blk_alloc ?_ _)); exact BK104.out) hb); have n1_ := Aside0.mk (below_step (by repeat (first | (with_reducible first | exact HB.out | apply below_alloc | apply pw_below_drewN | apply below_drew1 | refine below_set ?_ GE104.out) | exact HB.out)) hb); clear BK104; clear HB; have BK104 := n0_; have HB := n1_; clear n0_ n1_; (try clear hb); (try clear hb2); (try clear hk); (try clear hi)))
              go_ret
              exact ⟨by first | rfl | (simp [errW_none, errW_some] <;> rfl) | (simp [*, errW_none, errW_some] <;> rfl), by repeat (first | (with_reducible first | exact HB.out | apply below_alloc | apply pw_below_drewN | apply below_drew1 | refine below_set ?_ GE104.out) | exact HB.out)⟩
  · replace c6 := Bool.eq_false_iff.mpr c6
    subst c6
    have H1 : (some false) = some r := by rw [if_neg (show ¬ (false = true) by decide)] at H; exact H
    clear H
    have H := H1
    clear H1
    obtain rfl := Option.some.inj H
    go_enter Try.func3, Try.ntmps3
    go_wp2_with (first | ((with_reducible refine gate_callee (f := 8) rfl ?_); refine goesL_ (some 12) rfl rfl Try.func8 (by kernel_rfl) rfl #[] rfl (by (try simp only [List.map_toArray, List.map_cons, List.map_nil]); first | done | rfl | (simp only [List.length_drop, List.length_take]; rfl)) ?_; (with_reducible refine (seinelaw22_awake.calls  false _ A5.out).mono ?_); rintro e w49 ⟨rfl, hb⟩; refine ⟨_, rfl, ?_⟩; have n0_ := Aside0.mk (below_step (by repeat (first | (with_reducible first | exact HB.out | apply below_alloc | apply pw_below_drewN | apply below_drew1) | exact HB.out)) hb); clear HB; have HB := n0_; clear n0_; (try clear hb); (try clear hb2); (try clear hk); (try clear hi)))
    go_ret
    exact ⟨by first | rfl | (simp [errW_none, errW_some] <;> rfl) | (simp [*, errW_none, errW_some] <;> rfl), by repeat (first | (with_reducible first | exact HB.out | apply below_alloc | apply pw_below_drewN | apply below_drew1) | exact HB.out)⟩

/-- THE ONE PURE STATEMENT of seinelaw22_AdmitEmpty: yours. -/
def seinelaw22_AdmitEmpty.Pure : Prop := ∀ (l0 : List Int) (a1 : Int) (a2 : Bool) (a3 : Bool), l0.length ≤ maxLen → l0.length * 1 ≤ 140737488351232 → (∀ x ∈ l0, (Lit.int .u8 x).wf = true) → (Lit.int .u16 a1).wf = true → seinelaw22_AdmitEmpty.f l0 a1 a2 a3 = some true
theorem seinelaw22_AdmitEmpty.walk (P : seinelaw22_AdmitEmpty.Pure) (a0 : Option Addr) (len0 cap0 : Nat) (z0 : List Int) (a1 : Int) (a2 : Bool) (a3 : Bool) (w : World) (w0 : (a0 = none ∧ len0 = 0 ∧ cap0 = 0 ∧ z0 = []) ∨ ∃ x, a0 = some x ∧ len0 ≤ cap0 ∧ cap0 ≤ maxLen ∧ z0.length = cap0 ∧ (∀ i, i < z0.length → w.cell? (x.add i) = some (.int .u8 (z0.getD i 0))) ∧ ∀ n ∈ z0, (Lit.int .u8 n).wf = true) (y0 : len0 * 1 ≤ 140737488351232) (w1 : (Lit.int .u16 a1).wf = true) :
    Calls Try.prog 3 #[.slice a0 len0 cap0, .int .u16 a1, .bool a2, .bool a3] w fun e w' => e = .returned (.bool true) ∧ Below w.heap.size w w' := by
  obtain ⟨l0, rfl, hr0, hm0, hw0, hc0⟩ := ReadsInt.ofRowC w0
  have h := P l0 a1 a2 a3 hm0 y0 hw0 w1
  refine (seinelaw22_AdmitEmpty.calls _ _ l0 a1 a2 a3 true w (Kd.C_of_reads (d := (0 : Int)) (h1 := fun _ => rfl) hr0) hc0 h).mono ?_
  rintro e w' ⟨rfl, hd⟩
  exact ⟨rfl, hd⟩

end Go.Proofs.Ytfcolpemkbpgnaa.PAdmitEmpty
