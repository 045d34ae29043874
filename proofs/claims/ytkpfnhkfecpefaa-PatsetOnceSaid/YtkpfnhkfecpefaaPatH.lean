/- PatsetCap: a file of so many bytes is loaded, one byte more is too many. -/
import Derived.Test.YtkpfnhkfecpefaaPatG
import Derived.Deep.RegionHeld3
namespace Go.Proofs.Ytkpfnhkfecpefaa.Pat
open Go Go.RowKit Go.Proofs Go.Proofs.YtkpfnhkfecpefaaW.PrintWords Go.Proofs.YtkpfnhkfecpefaaW.PrintMore Go.Proofs.YtkpfnhkfecpefaaW.PrintLast Go.Proofs.Ytkpfnhkfecpefaa.Lin
set_option linter.unusedVariables false
set_option linter.unusedSimpArgs false
attribute [local go_sem] max2_int min2_int max_two min_two max_three min_three
def slen : Value → Nat
  | .slice _ n _ => n
  | _ => 0
theorem wr_in {x : Int} (h0 : -1000000000000 ≤ x) (h1 : x ≤ 1000000000000) : IntKind.i64.wrap x = x := IntWalk.i64_in _ (by omega)
theorem cap_nums {n t l : Nat} (h : (0 < n + t) = (0 < l)) (hn : n ≤ 1024) (ht : t ≤ 1024) : ∃ r : Bool, wrap64 ((n : Int) + (t : Int)) = (n : Int) + (t : Int) ∧ IntKind.i64.wrap ((n : Int) + (t : Int)) = (n : Int) + (t : Int) ∧ decide ((n : Int) + (t : Int) > 0) = r ∧ decide (0 < (n : Int) + (t : Int)) = r ∧ decide ((l : Int) > 0) = r ∧ decide (0 < (l : Int)) = r ∧ decide (0 < l) = r ∧ (r == r) = true := by
  refine ⟨decide (0 < l), wr_big (by omega) (by omega), wr_in (by omega) (by omega), ?_, ?_, ?_, ?_, rfl, beq_self_eq_true _⟩
  · rw [decide_eq_decide]; rw [← h]; omega
  · rw [decide_eq_decide]; rw [← h]; omega
  · rw [decide_eq_decide]; omega
  · rw [decide_eq_decide]; omega
theorem ms_cap {n : Nat} {A1 A2 : Option Addr} {c1 c2 : Nat} (h : n < 1024) : 1024 - slen (.slice A2 (n + 1) c2) < 1024 - slen (.slice A1 n c1) := by
  show 1024 - (n + 1) < 1024 - n
  omega
set_option maxHeartbeats 16000000 in
set_option maxRecDepth 100000 in
theorem cap_calls (A0 : Option Addr) (c0 : Nat) (l0 : List Int) (fd : Bool) (w : World) (hr0 : Kd.C (Kd.int .u8) w A0 l0.length l0) (hc0 : l0.length ≤ c0) :
    Calls Try.prog 8 #[.slice A0 l0.length c0, .bool fd] w fun e w' => e = .returned (.bool true) ∧ Below w.heap.size w w' := by
  have HR0 := Aside0.mk hr0
  have HC0 := Aside0.mk hc0
  have hu := Try.underlying27
  clear hr0 hc0
  by_cases hlen : 1024 < l0.length
  · have d1 : decide ((l0.length : Int) > 1024) = true := decide_eq_true (by omega)
    have d2 : decide ((1024 : Int) < (l0.length : Int)) = true := decide_eq_true (by omega)
    have d3 : decide (1024 < l0.length) = true := decide_eq_true hlen
    clear hlen
    go_enter Try.func8, Try.ntmps8
    go_wp2_with fail
    refine (awake_calls _).mono ?_
    rintro e w1 ⟨rfl, hb1⟩
    have HB1 := Aside0.mk hb1
    clear hb1
    go_wp2
    go_ret
    exact ⟨rfl, HB1.out⟩
  have d1 : decide ((l0.length : Int) > 1024) = false := decide_eq_false (by omega)
  have d2 : decide ((1024 : Int) < (l0.length : Int)) = false := decide_eq_false (by omega)
  have d3 : decide (1024 < l0.length) = false := decide_eq_false hlen
  have HLE := Aside0.mk (show l0.length ≤ 1024 by omega)
  clear hlen
  go_enter Try.func8, Try.ntmps8
  go_wp2_with fail
  refine (awake_calls _).mono ?_
  rintro e w1 ⟨rfl, hb1⟩
  have HB1 := Aside0.mk hb1
  have HR1 := Aside0.mk (Kd.C_below HR0.out hb1)
  clear hb1
  go_wp2_with (at_builtin; refine Kd.R_append_rows (Kd.int .u8) (w0 := w1) (W := w1) w1.heap.size rfl (.tmp 17) (.tmp 18) 22 5 (.int .u8 0) 1 rfl Try.underlying22 infoB rfl (by decide) (by decide) (.slice none 0 0) [] l0 A0 l0.length c0 (fun _ => True) (fun _ => False) rfl rfl (Kd.R_nil _ _ _ _ _) HR1.out (fun _ _ h => h) (fun _ h => h.elim) (fun _ _ => trivial) (Below.refl _ _) (Nat.le_refl _) (by have := HLE.out; simp only [List.length_nil]; omega) ?_; intro v1 w2 hr1 hb1 hg1 hat1; rw [List.nil_append] at hr1; obtain ⟨A2, c2, hv2⟩ := Kd.R_slice hr1; subst hv2; have HC2 := Aside0.mk hr1; have HB2 := Aside0.mk hb1; clear hr1 hb1 hg1 hat1)
  go_loopw [6] (fun v6 wr => ∃ (l : List Int) (A : Option Addr) (c : Nat), v6 = .slice A l.length c ∧ Aside0 (Kd.R (Kd.int .u8) 5 wr w1.heap.size (fun _ => True) (.slice A l.length c) l) ∧ Aside0 (l.length ≤ 1024) ∧ Aside0 (Below w1.heap.size w1 wr)) (fun v _ => 1024 - slen v)
  case atStart => exact ⟨l0, A2, c2, rfl, HC2, HLE, HB2⟩
  case round =>
    clear HC2 HB2
    obtain ⟨l, A, c, rfl, HR, HL, HB⟩ := hrel
    by_cases hlt : l.length < 1024
    · have e1 : decide ((l.length : Int) < 1024) = true := decide_eq_true (by omega)
      have e2 : decide (l.length < 1024) = true := decide_eq_true hlt
      have HLT := Aside0.mk hlt
      have hle : (l ++ [97]).length = l.length + 1 := (by simp)
      clear hlt
      go_wp2_with (at_builtin; refine Kd.R_append (Kd.int .u8) (w0 := w1) (W := wr) w1.heap.size rfl (.tmp 23) (.tmp 24) 22 5 (.int .u8 0) 1 rfl Try.underlying22 infoB rfl (by decide) (by decide) (.slice A l.length c) l 97 [.int .u8 97] (fun _ => True) (fun _ => False) rfl rfl rfl (fun _ h => h.elim) (fun _ _ => trivial) HR.out HB.out HB.out.size (by have := HL.out; omega) ?_; intro v1 w3 hr1 hb1 hg1 hat1; obtain ⟨A3, c3, hv3⟩ := Kd.R_slice hr1; subst hv3; have HR3 := Aside0.mk hr1; have HB3 := Aside0.mk hb1; clear hr1 hb1 hg1 hat1)
      go_roundw
      case rel => exact ⟨l ++ [97], A3, c3, by rw [hle], HR3, ⟨by rw [hle]; exact HLT.out⟩, HB3⟩
      case measure => exact ms_cap HLT.out
    · have e1 : decide ((l.length : Int) < 1024) = false := decide_eq_false (by omega)
      have e2 : decide (l.length < 1024) = false := decide_eq_false hlt
      have HL2 := Aside0.mk (show l.length = 1024 by have := HL.out; omega)
      clear hlt
      have HRC := Aside0.mk (Kd.R_reads' HR.out)
      go_wp2_with fail
      refine (load_small wr A c l fd HRC.out.2.2 HRC.out.2.1 (by have := HL2.out; omega)).mono ?_
      rintro e w3 ⟨v3, rfl, hs3, hb3⟩
      have HLP := Aside0.mk (show loadP l fd = ofP (linesT (foldT fd l)) from if_neg (by rw [HL2.out]; omega))
      obtain ⟨f1, f2, f3, f4⟩ := load_facts l fd
      have HF1 := Aside0.mk (least_facts _ f3)
      have HF2 := Aside0.mk (And.intro f1 (And.intro f2 f4))
      rw [HLP.out] at HF1 HF2
      generalize ofP (linesT (foldT fd l)) = s1 at hs3 HF1 HF2
      obtain ⟨A3, c3, bm3, _, _, rfl, _, _, _, _⟩ := hs3.lies
      have HBX := Aside0.mk (below_alloc hb3 (.cells #[.slice A3 s1.l.length c3, .map (some bm3), .bool s1.e] 27))
      have HC3 := Aside0.mk (below_alloc (Below.refl w3.heap.size w3) (.cells #[.slice A3 s1.l.length c3, .map (some bm3), .bool s1.e] 27))
      have HX3 := Aside0.mk (blk_new w3 (.cells #[.slice A3 s1.l.length c3, .map (some bm3), .bool s1.e] 27))
      have HS3 := Aside0.mk (hs3.kept (Kept.of_below HC3.out (fun _ => False)) (fun _ _ _ h => h))
      have HR3 := Aside0.mk (Kd.R_below (Kd.R_bound HR.out) HBX.out)
      have HB3 := Aside0.mk (Below.trans HB.out (HBX.out.mono HB.out.size))
      have HZ3 := Aside0.mk (World.size_alloc w3 (.cells #[.slice A3 s1.l.length c3, .map (some bm3), .bool s1.e] 27))
      have HOB := Aside0.mk (fun (k : Nat) (e : (Value.slice A l.length c).ownBlock = some k) => Kd.R_lt HR.out k e)
      have HW3 := Aside0.mk hb3.size
      clear hs3 hb3 f1 f2 f3 f4 HC3 HR HRC HLP
      have hle : (l ++ [10]).length = l.length + 1 := (by simp)
      go_wp2_with (at_builtin; (refine Kd.R_append (Kd.int .u8) (w0 := w1) (W := w3.alloc (.cells #[.slice A3 s1.l.length c3, .map (some bm3), .bool s1.e] 27)) w1.heap.size rfl (.tmp 32) (.tmp 33) 22 5 (.int .u8 0) 1 rfl Try.underlying22 infoB rfl (by decide) (by decide) (.slice A l.length c) l 10 [.int .u8 10] (fun _ => True) (fun _ => False) rfl (by rw [HZ3.out]; rfl) rfl (fun _ h => h.elim) (fun _ _ => trivial) (Kd.R_mono HR3.out (fun _ _ => trivial)) HB3.out HB3.out.size (by have := HL2.out; omega) ?_; intro v1 w5 hr5 hb5 hg5 hat5; obtain ⟨A5, c5, hv5⟩ := Kd.R_slice hr5; rw [hle] at hv5; subst hv5; have HR5 := Aside0.mk (Kd.R_reads' hr5); have HB5 := Aside0.mk hb5; have HG5 := Aside0.mk hg5; have HOL := Aside0.mk (fun (k : Nat) (e : (Value.slice A l.length c).ownBlock = some k) => HR3.out.1 k e); clear hr5 hb5 hg5 hat5))
      have HS5 := Aside0.mk (HS3.out.kept (Kept.of_grown HG5.out (Kept.refl _ (fun k => (Value.slice A l.length c).ownBlock = some k)) (fun k hk => Or.inl hk)) (fun k hk _ e => by have := HOB.out k e; omega))
      have HX5 := Aside0.mk (blk_kept HX3.out (Kept.of_grown HG5.out (Kept.refl _ (fun k => (Value.slice A l.length c).ownBlock = some k)) (fun k hk => Or.inl hk)) (fun e => by have := HOB.out _ e; have := HW3.out; omega))
      have HLB := Aside0.mk (load_big w5 A5 c5 (l ++ [10]) fd (by rw [hle]; have := HL2.out; omega))
      rw [hle] at HLB
      refine HLB.out.mono ?_
      rintro e w6 ⟨rfl, hb6⟩
      have HQ := Aside0.mk (below_alloc hb6 (.cells #[.slice none 0 0, .map none, .bool false] 27))
      have HY7 := Aside0.mk (blk_new w6 (.cells #[.slice none 0 0, .map none, .bool false] 27))
      have HX7 := Aside0.mk (blk_below HX5.out HQ.out)
      have HS7 := Aside0.mk (HS5.out.toC.below HQ.out)
      have HB7 := Aside0.mk (Below.trans HB1.out (Below.trans HB5.out (HQ.out.mono HB5.out.size) |>.mono HB1.out.size))
      clear hb6 HLB HQ HS5 HX5 HB5 HG5 HOL HR5 HX3 HS3 HR3 HB3 HZ3 HOB HW3
      go_wp2_with fail
      generalize w6.alloc (.cells #[.slice none 0 0, .map none, .bool false] 27) = w7 at HY7 HX7 HS7 HB7 ⊢
      generalize w6.heap.size = g2 at HY7 ⊢
      generalize w3.heap.size = g1 at HX7 ⊢
      obtain ⟨r, q1, q0, q2, q3, q4, q5, q6, q7⟩ := cap_nums HF1.out HF2.out.1 HF2.out.2.1
      have k10 := (blk_cell HX7.out 0).trans (show _ = some (Value.slice A3 s1.l.length c3) from rfl)
      have k11 := (blk_cell HX7.out 1).trans (show _ = some (Value.map (some bm3)) from rfl)
      have k12 := (blk_cell HX7.out 2).trans (show _ = some (Value.bool s1.e) from rfl)
      have k20 := (blk_cell HY7.out 0).trans (show _ = some (Value.slice none 0 0) from rfl)
      have k21 := (blk_cell HY7.out 1).trans (show _ = some (Value.map none) from rfl)
      have k22 := (blk_cell HY7.out 2).trans (show _ = some (Value.bool false) from rfl)
      refine wp_region_held_drew (S := fun w' => w'.cell? ⟨g1, 0, none⟩ = some (Value.slice A3 s1.l.length c3) ∧ w'.cell? ⟨g1, 1, none⟩ = some (Value.map (some bm3)) ∧ w'.cell? ⟨g1, 2, none⟩ = some (Value.bool s1.e) ∧ w'.cell? ⟨g2, 0, none⟩ = some (Value.slice none 0 0) ∧ w'.cell? ⟨g2, 1, none⟩ = some (Value.map none) ∧ w'.cell? ⟨g2, 2, none⟩ = some (Value.bool false)) (by kernel_rfl) ⟨k10, k11, k12, k20, k21, k22⟩ (fun hHeld => ?_)
      refine wpAnyH_take (i := 0) (oi := { dst := some 41, op := Op.move (Operand.tmp 8), type := 28, pos := "law.go:181", after := #[], guard := none }) (v := ?_) rfl (by kernel_rfl) (by kernel_rfl) (by kernel_rfl) (fun _ _ _ h => h) (Or.inl ⟨by rfl, ?_⟩) (by assumption) ?_
      rotate_left 1
      · intro w hSw
        (try dsimp only at hSw)
        go_simp
        all_goals try with_reducible rfl
      try simp only [Act.put, List.setIfInBounds_toArray, List.set_cons_zero, List.set_cons_succ]
      refine wpAnyH_take (i := 1) (oi := { dst := some 42, op := Op.binOp BinOp.eql 28 (Operand.tmp 41) (Operand.const (Value.int IntKind.i64 0)) 28, type := 4, pos := "law.go:181", after := #[{ on := 0, ground := Ground.data }], guard := none }) (v := ?_) rfl (by kernel_rfl) (by kernel_rfl) (by kernel_rfl) (fun _ _ _ h => h) (Or.inl ⟨by rfl, ?_⟩) (by assumption) ?_
      rotate_left 1
      · intro w hSw
        (try dsimp only at hSw)
        go_simp
        all_goals try with_reducible rfl
      try simp only [Act.put, List.setIfInBounds_toArray, List.set_cons_zero, List.set_cons_succ]
      refine wpAnyH_take (i := 2) (oi := { dst := some 43, op := Op.move (Operand.tmp 42), type := 4, pos := "law.go:181", after := #[{ on := 1, ground := Ground.data }], guard := none }) (v := ?_) rfl (by kernel_rfl) (by kernel_rfl) (by kernel_rfl) (fun _ _ _ h => h) (Or.inl ⟨by rfl, ?_⟩) (by assumption) ?_
      rotate_left 1
      · intro w hSw
        (try dsimp only at hSw)
        go_simp
        all_goals try with_reducible rfl
      try simp only [Act.put, List.setIfInBounds_toArray, List.set_cons_zero, List.set_cons_succ]
      refine wpAnyH_take (i := 3) (oi := { dst := some 44, op := Op.load 27 (Operand.tmp 7), type := 27, pos := "law.go:181", after := #[{ on := 2, ground := Ground.guard }], guard := some (2, true) }) (v := ?_) rfl (by kernel_rfl) (by kernel_rfl) (by kernel_rfl) (fun _ _ _ h => h) (Or.inl ⟨by go_simp, ?_⟩) (by assumption) ?_
      rotate_left 1
      · intro w hSw
        (try dsimp only at hSw)
        go_simp
        all_goals try with_reducible rfl
      try simp only [Act.put, List.setIfInBounds_toArray, List.set_cons_zero, List.set_cons_succ]
      refine wpAnyH_take (i := 6) (oi := { dst := some 47, op := Op.load 27 (Operand.tmp 7), type := 27, pos := "law.go:181", after := #[{ on := 2, ground := Ground.guard }], guard := some (2, true) }) (v := ?_) rfl (by kernel_rfl) (by kernel_rfl) (by kernel_rfl) (fun _ _ _ h => h) (Or.inl ⟨by go_simp, ?_⟩) (by assumption) ?_
      rotate_left 1
      · intro w hSw
        (try dsimp only at hSw)
        go_simp
        all_goals try with_reducible rfl
      try simp only [Act.put, List.setIfInBounds_toArray, List.set_cons_zero, List.set_cons_succ]
      refine wpAnyH_take (i := 10) (oi := { dst := some 51, op := Op.load 27 (Operand.tmp 7), type := 27, pos := "law.go:181", after := #[{ on := 2, ground := Ground.guard }], guard := some (2, true) }) (v := ?_) rfl (by kernel_rfl) (by kernel_rfl) (by kernel_rfl) (fun _ _ _ h => h) (Or.inl ⟨by go_simp, ?_⟩) (by assumption) ?_
      rotate_left 1
      · intro w hSw
        (try dsimp only at hSw)
        go_simp
        all_goals try with_reducible rfl
      try simp only [Act.put, List.setIfInBounds_toArray, List.set_cons_zero, List.set_cons_succ]
      refine wpAnyH_ready (rs := [4]) (by kernel_rfl) (by simp) ?_
      refine AllReadyH.cons (o := { dst := some 45, op := Op.call { callee := Callee.value (Operand.func 18), args := #[Operand.tmp 44], argTypes := #[27] }, type := 24, pos := "law.go:181", after := #[{ on := 3, ground := Ground.data }, { on := 2, ground := Ground.chain }, { on := 2, ground := Ground.guard }], guard := some (2, true) }) rfl (fun K hK => ?_) AllReadyH.nil
      clear hHeld
      go_simp
      refine (patterns_calls (HS7.out.below (below_drew (Below.refl w7.heap.size w7))) (by have := HF2.out.1; omega) (fun p hp => Nat.le_trans (HF2.out.2.2 p hp) (by decide))).mono ?_
      rintro e w8 ⟨v8, rfl, hr8, hb⟩
      obtain ⟨A8, c8, hv8⟩ := Kd.R_slice hr8
      subst hv8
      clear hr8
      have HB8 := Aside0.mk (show Below w7.heap.size w7 w8 from Below.trans ((below_drew (Below.refl w7.heap.size w7))) (hb.mono ((below_drew (Below.refl w7.heap.size w7))).size))
      clear hb k10 k11 k12 k20 k21 k22
      have k10 := (blk_cell (blk_below HX7.out HB8.out) 0).trans (show _ = some (Value.slice A3 s1.l.length c3) from rfl)
      have k11 := (blk_cell (blk_below HX7.out HB8.out) 1).trans (show _ = some (Value.map (some bm3)) from rfl)
      have k12 := (blk_cell (blk_below HX7.out HB8.out) 2).trans (show _ = some (Value.bool s1.e) from rfl)
      have k20 := (blk_cell (blk_below HY7.out HB8.out) 0).trans (show _ = some (Value.slice none 0 0) from rfl)
      have k21 := (blk_cell (blk_below HY7.out HB8.out) 1).trans (show _ = some (Value.map none) from rfl)
      have k22 := (blk_cell (blk_below HY7.out HB8.out) 2).trans (show _ = some (Value.bool false) from rfl)
      refine hK.out _ _ ⟨k10, k11, k12, k20, k21, k22⟩ (fun hHeld => ?_)
      clear hK K
      try simp only [Act.put, List.setIfInBounds_toArray, List.set_cons_zero, List.set_cons_succ]
      refine wpAnyH_take (i := 5) (oi := { dst := some 46, op := Op.call { callee := Callee.builtin Builtin.len, args := #[Operand.tmp 45], argTypes := #[24] }, type := 3, pos := "law.go:181", after := #[{ on := 4, ground := Ground.data }, { on := 2, ground := Ground.guard }], guard := some (2, true) }) (v := ?_) rfl (by kernel_rfl) (by kernel_rfl) (by kernel_rfl) (fun _ _ _ h => h) (Or.inl ⟨by go_simp, ?_⟩) (by assumption) ?_
      rotate_left 1
      · intro w hSw
        (try dsimp only at hSw)
        go_simp
        all_goals try with_reducible rfl
      try simp only [Act.put, List.setIfInBounds_toArray, List.set_cons_zero, List.set_cons_succ]
      refine wpAnyH_ready (rs := [7]) (by kernel_rfl) (by simp) ?_
      refine AllReadyH.cons (o := { dst := some 48, op := Op.call { callee := Callee.value (Operand.func 21), args := #[Operand.tmp 47], argTypes := #[27] }, type := 3, pos := "law.go:181", after := #[{ on := 6, ground := Ground.data }, { on := 4, ground := Ground.chain }, { on := 2, ground := Ground.guard }], guard := some (2, true) }) rfl (fun K hK => ?_) AllReadyH.nil
      clear hHeld
      go_simp
      refine (size_calls (HS7.out.below HB8.out) (by have := HF2.out.2.1; omega)).mono ?_
      rintro e w9 ⟨rfl, hb⟩
      have HB9 := Aside0.mk (show Below w7.heap.size w7 w9 from Below.trans (HB8.out) (hb.mono (HB8.out).size))
      clear hb k10 k11 k12 k20 k21 k22
      have k10 := (blk_cell (blk_below HX7.out HB9.out) 0).trans (show _ = some (Value.slice A3 s1.l.length c3) from rfl)
      have k11 := (blk_cell (blk_below HX7.out HB9.out) 1).trans (show _ = some (Value.map (some bm3)) from rfl)
      have k12 := (blk_cell (blk_below HX7.out HB9.out) 2).trans (show _ = some (Value.bool s1.e) from rfl)
      have k20 := (blk_cell (blk_below HY7.out HB9.out) 0).trans (show _ = some (Value.slice none 0 0) from rfl)
      have k21 := (blk_cell (blk_below HY7.out HB9.out) 1).trans (show _ = some (Value.map none) from rfl)
      have k22 := (blk_cell (blk_below HY7.out HB9.out) 2).trans (show _ = some (Value.bool false) from rfl)
      refine hK.out _ _ ⟨k10, k11, k12, k20, k21, k22⟩ (fun hHeld => ?_)
      clear hK K
      try simp only [Act.put, List.setIfInBounds_toArray, List.set_cons_zero, List.set_cons_succ]
      refine wpAnyH_take (i := 8) (oi := { dst := some 49, op := Op.binOp BinOp.add 3 (Operand.tmp 46) (Operand.tmp 48) 3, type := 3, pos := "law.go:181", after := #[{ on := 5, ground := Ground.data }, { on := 7, ground := Ground.data }, { on := 2, ground := Ground.guard }], guard := some (2, true) }) (v := ?_) rfl (by kernel_rfl) (by kernel_rfl) (by kernel_rfl) (fun _ _ _ h => h) (Or.inl ⟨by go_simp, ?_⟩) (by assumption) ?_
      rotate_left 1
      · intro w hSw
        (try dsimp only at hSw)
        go_simp
        all_goals try with_reducible rfl
      try simp only [Act.put, List.setIfInBounds_toArray, List.set_cons_zero, List.set_cons_succ]
      refine wpAnyH_take (i := 9) (oi := { dst := some 50, op := Op.binOp BinOp.gtr 3 (Operand.tmp 49) (Operand.const (Value.int IntKind.i64 0)) 3, type := 4, pos := "law.go:181", after := #[{ on := 8, ground := Ground.data }, { on := 2, ground := Ground.guard }], guard := some (2, true) }) (v := ?_) rfl (by kernel_rfl) (by kernel_rfl) (by kernel_rfl) (fun _ _ _ h => h) (Or.inl ⟨by go_simp, ?_⟩) (by assumption) ?_
      rotate_left 1
      · intro w hSw
        (try dsimp only at hSw)
        go_simp
        all_goals try with_reducible rfl
      try simp only [Act.put, List.setIfInBounds_toArray, List.set_cons_zero, List.set_cons_succ]
      refine wpAnyH_ready (rs := [11]) (by kernel_rfl) (by simp) ?_
      refine AllReadyH.cons (o := { dst := some 52, op := Op.call { callee := Callee.value (Operand.func 22), args := #[Operand.tmp 51], argTypes := #[27] }, type := 3, pos := "law.go:181", after := #[{ on := 10, ground := Ground.data }, { on := 7, ground := Ground.chain }, { on := 2, ground := Ground.guard }], guard := some (2, true) }) rfl (fun K hK => ?_) AllReadyH.nil
      clear hHeld
      go_simp
      refine (least_calls (HS7.out.below HB9.out)).mono ?_
      rintro e w10 ⟨rfl, hb⟩
      have HB10 := Aside0.mk (show Below w7.heap.size w7 w10 from Below.trans (HB9.out) (hb.mono (HB9.out).size))
      clear hb k10 k11 k12 k20 k21 k22
      have k10 := (blk_cell (blk_below HX7.out HB10.out) 0).trans (show _ = some (Value.slice A3 s1.l.length c3) from rfl)
      have k11 := (blk_cell (blk_below HX7.out HB10.out) 1).trans (show _ = some (Value.map (some bm3)) from rfl)
      have k12 := (blk_cell (blk_below HX7.out HB10.out) 2).trans (show _ = some (Value.bool s1.e) from rfl)
      have k20 := (blk_cell (blk_below HY7.out HB10.out) 0).trans (show _ = some (Value.slice none 0 0) from rfl)
      have k21 := (blk_cell (blk_below HY7.out HB10.out) 1).trans (show _ = some (Value.map none) from rfl)
      have k22 := (blk_cell (blk_below HY7.out HB10.out) 2).trans (show _ = some (Value.bool false) from rfl)
      refine hK.out _ _ ⟨k10, k11, k12, k20, k21, k22⟩ (fun hHeld => ?_)
      clear hK K
      try simp only [Act.put, List.setIfInBounds_toArray, List.set_cons_zero, List.set_cons_succ]
      refine wpAnyH_take (i := 12) (oi := { dst := some 53, op := Op.binOp BinOp.gtr 3 (Operand.tmp 52) (Operand.const (Value.int IntKind.i64 0)) 3, type := 4, pos := "law.go:181", after := #[{ on := 11, ground := Ground.data }, { on := 2, ground := Ground.guard }], guard := some (2, true) }) (v := ?_) rfl (by kernel_rfl) (by kernel_rfl) (by kernel_rfl) (fun _ _ _ h => h) (Or.inl ⟨by go_simp, ?_⟩) (by assumption) ?_
      rotate_left 1
      · intro w hSw
        (try dsimp only at hSw)
        go_simp
        all_goals try with_reducible rfl
      try simp only [Act.put, List.setIfInBounds_toArray, List.set_cons_zero, List.set_cons_succ]
      refine wpAnyH_take (i := 13) (oi := { dst := some 54, op := Op.binOp BinOp.eql 4 (Operand.tmp 50) (Operand.tmp 53) 4, type := 4, pos := "law.go:181", after := #[{ on := 9, ground := Ground.data }, { on := 12, ground := Ground.data }, { on := 2, ground := Ground.guard }], guard := some (2, true) }) (v := ?_) rfl (by kernel_rfl) (by kernel_rfl) (by kernel_rfl) (fun _ _ _ h => h) (Or.inl ⟨by go_simp, ?_⟩) (by assumption) ?_
      rotate_left 1
      · intro w hSw
        (try dsimp only at hSw)
        go_simp
        all_goals try with_reducible rfl
      try simp only [Act.put, List.setIfInBounds_toArray, List.set_cons_zero, List.set_cons_succ]
      refine wpAnyH_take (i := 14) (oi := { dst := some 55, op := Op.pick (Operand.tmp 43) (Operand.tmp 54) (Operand.const (Value.bool false)), type := 4, pos := "law.go:181", after := #[{ on := 2, ground := Ground.data }, { on := 13, ground := Ground.data }], guard := none }) (v := ?_) rfl (by kernel_rfl) (by kernel_rfl) (by kernel_rfl) (fun _ _ _ h => h) (Or.inl ⟨by rfl, ?_⟩) (by assumption) ?_
      rotate_left 1
      · intro w hSw
        (try dsimp only at hSw)
        go_simp
        all_goals try with_reducible rfl
      try simp only [Act.put, List.setIfInBounds_toArray, List.set_cons_zero, List.set_cons_succ]
      refine wpAnyH_take (i := 15) (oi := { dst := some 56, op := Op.move (Operand.tmp 55), type := 4, pos := "law.go:181", after := #[{ on := 14, ground := Ground.data }, { on := 11, ground := Ground.chain }], guard := none }) (v := ?_) rfl (by kernel_rfl) (by kernel_rfl) (by kernel_rfl) (fun _ _ _ h => h) (Or.inl ⟨by rfl, ?_⟩) (by assumption) ?_
      rotate_left 1
      · intro w hSw
        (try dsimp only at hSw)
        go_simp
        all_goals try with_reducible rfl
      try simp only [Act.put, List.setIfInBounds_toArray, List.set_cons_zero, List.set_cons_succ]
      refine wpAnyH_take (i := 16) (oi := { dst := some 57, op := Op.move (Operand.tmp 10), type := 28, pos := "law.go:181", after := #[{ on := 15, ground := Ground.guard }], guard := some (15, true) }) (v := ?_) rfl (by kernel_rfl) (by kernel_rfl) (by kernel_rfl) (fun _ _ _ h => h) (Or.inl ⟨by go_simp, ?_⟩) (by assumption) ?_
      rotate_left 1
      · intro w hSw
        (try dsimp only at hSw)
        go_simp
        all_goals try with_reducible rfl
      try simp only [Act.put, List.setIfInBounds_toArray, List.set_cons_zero, List.set_cons_succ]
      refine wpAnyH_take (i := 17) (oi := { dst := some 58, op := Op.binOp BinOp.eql 28 (Operand.tmp 57) (Operand.const (Value.int IntKind.i64 12)) 28, type := 4, pos := "law.go:181", after := #[{ on := 16, ground := Ground.data }, { on := 15, ground := Ground.guard }], guard := some (15, true) }) (v := ?_) rfl (by kernel_rfl) (by kernel_rfl) (by kernel_rfl) (fun _ _ _ h => h) (Or.inl ⟨by go_simp, ?_⟩) (by assumption) ?_
      rotate_left 1
      · intro w hSw
        (try dsimp only at hSw)
        go_simp
        all_goals try with_reducible rfl
      try simp only [Act.put, List.setIfInBounds_toArray, List.set_cons_zero, List.set_cons_succ]
      refine wpAnyH_take (i := 18) (oi := { dst := some 59, op := Op.pick (Operand.tmp 56) (Operand.tmp 58) (Operand.const (Value.bool false)), type := 4, pos := "law.go:181", after := #[{ on := 15, ground := Ground.data }, { on := 17, ground := Ground.data }], guard := none }) (v := ?_) rfl (by kernel_rfl) (by kernel_rfl) (by kernel_rfl) (fun _ _ _ h => h) (Or.inl ⟨by rfl, ?_⟩) (by assumption) ?_
      rotate_left 1
      · intro w hSw
        (try dsimp only at hSw)
        go_simp
        all_goals try with_reducible rfl
      try simp only [Act.put, List.setIfInBounds_toArray, List.set_cons_zero, List.set_cons_succ]
      refine wpAnyH_take (i := 19) (oi := { dst := some 60, op := Op.move (Operand.tmp 59), type := 4, pos := "law.go:181", after := #[{ on := 18, ground := Ground.data }, { on := 15, ground := Ground.chain }], guard := none }) (v := ?_) rfl (by kernel_rfl) (by kernel_rfl) (by kernel_rfl) (fun _ _ _ h => h) (Or.inl ⟨by rfl, ?_⟩) (by assumption) ?_
      rotate_left 1
      · intro w hSw
        (try dsimp only at hSw)
        go_simp
        all_goals try with_reducible rfl
      try simp only [Act.put, List.setIfInBounds_toArray, List.set_cons_zero, List.set_cons_succ]
      refine wpAnyH_take (i := 20) (oi := { dst := some 61, op := Op.load 27 (Operand.tmp 9), type := 27, pos := "law.go:181", after := #[{ on := 19, ground := Ground.guard }], guard := some (19, true) }) (v := ?_) rfl (by kernel_rfl) (by kernel_rfl) (by kernel_rfl) (fun _ _ _ h => h) (Or.inl ⟨by go_simp, ?_⟩) (by assumption) ?_
      rotate_left 1
      · intro w hSw
        (try dsimp only at hSw)
        go_simp
        all_goals try with_reducible rfl
      try simp only [Act.put, List.setIfInBounds_toArray, List.set_cons_zero, List.set_cons_succ]
      refine wpAnyH_ready (rs := [21]) (by kernel_rfl) (by simp) ?_
      refine AllReadyH.cons (o := { dst := some 62, op := Op.call { callee := Callee.value (Operand.func 18), args := #[Operand.tmp 61], argTypes := #[27] }, type := 24, pos := "law.go:181", after := #[{ on := 20, ground := Ground.data }, { on := 19, ground := Ground.chain }, { on := 19, ground := Ground.guard }], guard := some (19, true) }) rfl (fun K hK => ?_) AllReadyH.nil
      clear hHeld
      go_simp
      refine (patterns_calls (setC_zero w10) (Nat.zero_le _) (fun p hp => absurd hp (by simp))).mono ?_
      rintro e w11 ⟨v11, rfl, hr11, hb⟩
      obtain ⟨A11, c11, hv11⟩ := Kd.R_slice hr11
      subst hv11
      clear hr11
      have HB11 := Aside0.mk (show Below w7.heap.size w7 w11 from Below.trans (HB10.out) (hb.mono (HB10.out).size))
      clear hb k10 k11 k12 k20 k21 k22
      have k10 := (blk_cell (blk_below HX7.out HB11.out) 0).trans (show _ = some (Value.slice A3 s1.l.length c3) from rfl)
      have k11 := (blk_cell (blk_below HX7.out HB11.out) 1).trans (show _ = some (Value.map (some bm3)) from rfl)
      have k12 := (blk_cell (blk_below HX7.out HB11.out) 2).trans (show _ = some (Value.bool s1.e) from rfl)
      have k20 := (blk_cell (blk_below HY7.out HB11.out) 0).trans (show _ = some (Value.slice none 0 0) from rfl)
      have k21 := (blk_cell (blk_below HY7.out HB11.out) 1).trans (show _ = some (Value.map none) from rfl)
      have k22 := (blk_cell (blk_below HY7.out HB11.out) 2).trans (show _ = some (Value.bool false) from rfl)
      refine hK.out _ _ ⟨k10, k11, k12, k20, k21, k22⟩ (fun hHeld => ?_)
      clear hK K
      try simp only [Act.put, List.setIfInBounds_toArray, List.set_cons_zero, List.set_cons_succ]
      refine wpAnyH_take (i := 22) (oi := { dst := some 63, op := Op.call { callee := Callee.builtin Builtin.len, args := #[Operand.tmp 62], argTypes := #[24] }, type := 3, pos := "law.go:181", after := #[{ on := 21, ground := Ground.data }, { on := 19, ground := Ground.guard }], guard := some (19, true) }) (v := ?_) rfl (by kernel_rfl) (by kernel_rfl) (by kernel_rfl) (fun _ _ _ h => h) (Or.inl ⟨by go_simp, ?_⟩) (by assumption) ?_
      rotate_left 1
      · intro w hSw
        (try dsimp only at hSw)
        go_simp
        all_goals try with_reducible rfl
      try simp only [Act.put, List.setIfInBounds_toArray, List.set_cons_zero, List.set_cons_succ]
      refine wpAnyH_take (i := 23) (oi := { dst := some 64, op := Op.binOp BinOp.eql 3 (Operand.tmp 63) (Operand.const (Value.int IntKind.i64 0)) 3, type := 4, pos := "law.go:181", after := #[{ on := 22, ground := Ground.data }, { on := 19, ground := Ground.guard }], guard := some (19, true) }) (v := ?_) rfl (by kernel_rfl) (by kernel_rfl) (by kernel_rfl) (fun _ _ _ h => h) (Or.inl ⟨by go_simp, ?_⟩) (by assumption) ?_
      rotate_left 1
      · intro w hSw
        (try dsimp only at hSw)
        go_simp
        all_goals try with_reducible rfl
      try simp only [Act.put, List.setIfInBounds_toArray, List.set_cons_zero, List.set_cons_succ]
      refine wpAnyH_take (i := 24) (oi := { dst := some 65, op := Op.pick (Operand.tmp 60) (Operand.tmp 64) (Operand.const (Value.bool false)), type := 4, pos := "law.go:181", after := #[{ on := 19, ground := Ground.data }, { on := 23, ground := Ground.data }], guard := none }) (v := ?_) rfl (by kernel_rfl) (by kernel_rfl) (by kernel_rfl) (fun _ _ _ h => h) (Or.inl ⟨by rfl, ?_⟩) (by assumption) ?_
      rotate_left 1
      · intro w hSw
        (try dsimp only at hSw)
        go_simp
        all_goals try with_reducible rfl
      try simp only [Act.put, List.setIfInBounds_toArray, List.set_cons_zero, List.set_cons_succ]
      refine wpAnyH_take (i := 25) (oi := { dst := some 66, op := Op.move (Operand.tmp 65), type := 4, pos := "law.go:181", after := #[{ on := 24, ground := Ground.data }, { on := 21, ground := Ground.chain }], guard := none }) (v := ?_) rfl (by kernel_rfl) (by kernel_rfl) (by kernel_rfl) (fun _ _ _ h => h) (Or.inl ⟨by rfl, ?_⟩) (by assumption) ?_
      rotate_left 1
      · intro w hSw
        (try dsimp only at hSw)
        go_simp
        all_goals try with_reducible rfl
      try simp only [Act.put, List.setIfInBounds_toArray, List.set_cons_zero, List.set_cons_succ]
      refine wpAnyH_take (i := 26) (oi := { dst := some 67, op := Op.load 27 (Operand.tmp 9), type := 27, pos := "law.go:181", after := #[{ on := 25, ground := Ground.guard }], guard := some (25, true) }) (v := ?_) rfl (by kernel_rfl) (by kernel_rfl) (by kernel_rfl) (fun _ _ _ h => h) (Or.inl ⟨by go_simp, ?_⟩) (by assumption) ?_
      rotate_left 1
      · intro w hSw
        (try dsimp only at hSw)
        go_simp
        all_goals try with_reducible rfl
      try simp only [Act.put, List.setIfInBounds_toArray, List.set_cons_zero, List.set_cons_succ]
      refine wpAnyH_ready (rs := [27]) (by kernel_rfl) (by simp) ?_
      refine AllReadyH.cons (o := { dst := some 68, op := Op.call { callee := Callee.value (Operand.func 20), args := #[Operand.tmp 67], argTypes := #[27] }, type := 4, pos := "law.go:181", after := #[{ on := 26, ground := Ground.data }, { on := 25, ground := Ground.chain }, { on := 25, ground := Ground.guard }], guard := some (25, true) }) rfl (fun K hK => ?_) AllReadyH.nil
      clear hHeld
      go_simp
      refine (empty_calls (setC_zero w11)).mono ?_
      rintro e w12 ⟨rfl, hb⟩
      have HB12 := Aside0.mk (show Below w7.heap.size w7 w12 from Below.trans (HB11.out) (hb.mono (HB11.out).size))
      clear hb k10 k11 k12 k20 k21 k22
      have k10 := (blk_cell (blk_below HX7.out HB12.out) 0).trans (show _ = some (Value.slice A3 s1.l.length c3) from rfl)
      have k11 := (blk_cell (blk_below HX7.out HB12.out) 1).trans (show _ = some (Value.map (some bm3)) from rfl)
      have k12 := (blk_cell (blk_below HX7.out HB12.out) 2).trans (show _ = some (Value.bool s1.e) from rfl)
      have k20 := (blk_cell (blk_below HY7.out HB12.out) 0).trans (show _ = some (Value.slice none 0 0) from rfl)
      have k21 := (blk_cell (blk_below HY7.out HB12.out) 1).trans (show _ = some (Value.map none) from rfl)
      have k22 := (blk_cell (blk_below HY7.out HB12.out) 2).trans (show _ = some (Value.bool false) from rfl)
      refine hK.out _ _ ⟨k10, k11, k12, k20, k21, k22⟩ (fun hHeld => ?_)
      clear hK K
      try simp only [Act.put, List.setIfInBounds_toArray, List.set_cons_zero, List.set_cons_succ]
      refine wpAnyH_take (i := 28) (oi := { dst := some 69, op := Op.unOp UnOp.not 4 (Operand.tmp 68), type := 4, pos := "law.go:181", after := #[{ on := 27, ground := Ground.data }, { on := 25, ground := Ground.guard }], guard := some (25, true) }) (v := ?_) rfl (by kernel_rfl) (by kernel_rfl) (by kernel_rfl) (fun _ _ _ h => h) (Or.inl ⟨by go_simp, ?_⟩) (by assumption) ?_
      rotate_left 1
      · intro w hSw
        (try dsimp only at hSw)
        go_simp
        all_goals try with_reducible rfl
      try simp only [Act.put, List.setIfInBounds_toArray, List.set_cons_zero, List.set_cons_succ]
      refine wpAnyH_take (i := 29) (oi := { dst := some 70, op := Op.pick (Operand.tmp 66) (Operand.tmp 69) (Operand.const (Value.bool false)), type := 4, pos := "law.go:181", after := #[{ on := 25, ground := Ground.data }, { on := 28, ground := Ground.data }], guard := none }) (v := ?_) rfl (by kernel_rfl) (by kernel_rfl) (by kernel_rfl) (fun _ _ _ h => h) (Or.inl ⟨by rfl, ?_⟩) (by assumption) ?_
      rotate_left 1
      · intro w hSw
        (try dsimp only at hSw)
        go_simp
        all_goals try with_reducible rfl
      try simp only [Act.put, List.setIfInBounds_toArray, List.set_cons_zero, List.set_cons_succ]
      refine wpAnyH_take (i := 30) (oi := { dst := some 4, op := Op.assign (Operand.tmp 70), type := 4, pos := "law.go:181", after := #[{ on := 29, ground := Ground.data }, { on := 27, ground := Ground.chain }, { on := 0, ground := Ground.phase }, { on := 1, ground := Ground.phase }, { on := 2, ground := Ground.phase }, { on := 3, ground := Ground.phase }, { on := 4, ground := Ground.phase }, { on := 5, ground := Ground.phase }, { on := 6, ground := Ground.phase }, { on := 7, ground := Ground.phase }, { on := 8, ground := Ground.phase }, { on := 9, ground := Ground.phase }, { on := 10, ground := Ground.phase }, { on := 11, ground := Ground.phase }, { on := 12, ground := Ground.phase }, { on := 13, ground := Ground.phase }, { on := 14, ground := Ground.phase }, { on := 15, ground := Ground.phase }, { on := 16, ground := Ground.phase }, { on := 17, ground := Ground.phase }, { on := 18, ground := Ground.phase }, { on := 19, ground := Ground.phase }, { on := 20, ground := Ground.phase }, { on := 21, ground := Ground.phase }, { on := 22, ground := Ground.phase }, { on := 23, ground := Ground.phase }, { on := 24, ground := Ground.phase }, { on := 25, ground := Ground.phase }, { on := 26, ground := Ground.phase }, { on := 27, ground := Ground.phase }, { on := 28, ground := Ground.phase }, { on := 29, ground := Ground.phase }], guard := none }) (v := ?_) rfl (by kernel_rfl) (by kernel_rfl) (by kernel_rfl) (fun _ _ _ h => h) (Or.inl ⟨by rfl, ?_⟩) (by assumption) ?_
      rotate_left 1
      · intro w hSw
        (try dsimp only at hSw)
        go_simp
        all_goals try with_reducible rfl
      try simp only [Act.put, List.setIfInBounds_toArray, List.set_cons_zero, List.set_cons_succ]
      refine wpAnyH_done (by kernel_rfl) ?_ _
      go_wp2
      go_ret
      exact ⟨rfl, Below.trans HB7.out (HB12.out.mono HB7.out.size)⟩
end Go.Proofs.Ytkpfnhkfecpefaa.Pat
