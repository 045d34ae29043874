/- same: is a set the document's? -/
import Derived.Test.YtkpfnhkfecpefaaRefR
import Derived.Test.YtkpfnhkfecpefaaPatH
namespace Go.Proofs.Ytkpfnhkfecpefaa.Pat
open Go Go.RowKit Go.Proofs Go.Proofs.YtkpfnhkfecpefaaW.PrintWords Go.Proofs.YtkpfnhkfecpefaaW.PrintMore Go.Proofs.YtkpfnhkfecpefaaW.PrintLast Go.Proofs.Ytkpfnhkfecpefaa.Ref
set_option linter.unusedVariables false
set_option linter.unusedSimpArgs false
attribute [local go_sem] max2_int min2_int max_two min_two max_three min_three
theorem str_at {w : World} {A : Option Addr} {n : Nat} {L : List (List Int)} (h : Kd.C Kd.string w A n (L.map strOfNums)) (hn : n = L.length) (i : Nat) (hi : i < L.length) : ∃ ad, A = some ad ∧ w.cell? (ad.add i) = some (.string (strOfNums L[i])) := by
  obtain ⟨ad, e, hc⟩ := h.2.2 (by omega)
  obtain ⟨c, hs, hr, hcell⟩ := hc i (strOfNums L[i]) (by rw [List.getElem?_map, List.getElem?_eq_getElem hi]; rfl)
  cases hr
  refine ⟨ad, e, ?_⟩
  have := hcell 0 _ rfl
  simpa [Kd.string, Kd.scalar] using this
theorem has_own (s : PS) (i : Nat) (hi : i < s.l.length) (hp : ∀ p ∈ s.l, 0 < p.length) : hasP s s.l[i] = true := by
  have h := hp _ (List.getElem_mem hi)
  unfold hasP
  rw [if_neg (by omega)]
  unfold inP
  exact decide_eq_true (List.mem_map_of_mem (List.getElem_mem hi))
set_option maxHeartbeats 16000000 in
set_option maxRecDepth 100000 in
theorem same_calls {w : World} {v wv : Value} {s : PS} (h : SetC w v s) (hw : RefC w wv s) (hl : s.l.length ≤ 100000) (ht : totN s.l ≤ 1000000) (hpos : ∀ p ∈ s.l, 0 < p.length) (hpl : ∀ p ∈ s.l, p.length ≤ 1000000) :
    Calls Try.prog 13 #[v, wv] w fun e w' => e = .returned (.bool true) ∧ Below w.heap.size w w' := by
  obtain ⟨A, c, M, rfl, _, _, _, _⟩ := h.lies
  obtain ⟨A', c', rfl, hc2, hC2⟩ := hw.lies
  have hu := Try.underlying27
  have hu3 := Try.underlying33
  have HL := Aside0.mk (And.intro hl (And.intro ht (And.intro hpos hpl)))
  have HA := Aside0.mk (below_alloc (below_alloc (Below.refl w.heap.size w) (.cells #[.slice A s.l.length c, .map M, .bool s.e] 27)) (.cells #[.slice A' s.l.length c', .bool s.e] 33))
  have HX0 := Aside0.mk (blk_alloc (blk_new w (.cells #[.slice A s.l.length c, .map M, .bool s.e] 27)) (.cells #[.slice A' s.l.length c', .bool s.e] 33))
  have HY0 := Aside0.mk (blk_new (w.alloc (.cells #[.slice A s.l.length c, .map M, .bool s.e] 27)) (.cells #[.slice A' s.l.length c', .bool s.e] 33))
  have HS0 := Aside0.mk (h.below HA.out)
  have HW0 := Aside0.mk (hw.below HA.out)
  rw [World.size_alloc] at HY0
  have HPT := Aside0.mk (patterns_calls HS0.out (by omega) hpl)
  clear h hw hl ht hpos hpl hc2 hC2
  go_enter Try.func13, Try.ntmps13
  go_wp2_with fail
  refine HPT.out.mono ?_
  rintro e w1 ⟨v1, rfl, hr1, hb1⟩
  obtain ⟨A1, c1, hv1⟩ := Kd.R_slice hr1
  subst hv1
  have HP1 := Aside0.mk (Kd.R_reads' hr1)
  have HX1 := Aside0.mk (blk_below HX0.out hb1)
  have HY1 := Aside0.mk (blk_below HY0.out hb1)
  have HS1 := Aside0.mk (HS0.out.below hb1)
  have HW1 := Aside0.mk (HW0.out.below hb1)
  have HB1 := Aside0.mk (Below.trans HA.out (hb1.mono HA.out.size))
  clear hr1 hb1 HPT HX0 HY0 HS0 HW0 HA
  go_wp2_with fail
  generalize w.heap.size + 1 = g2 at HY1 ⊢
  obtain ⟨g1, hg1⟩ : ∃ g1, g1 = w.heap.size := ⟨_, rfl⟩
  rw [← hg1] at HX1 ⊢
  have HG1 := Aside0.mk hg1
  clear hg1
  have k10 := (blk_cell HX1.out 0).trans (show _ = some (Value.slice A s.l.length c) from rfl)
  have k11 := (blk_cell HX1.out 1).trans (show _ = some (Value.map M) from rfl)
  have k12 := (blk_cell HX1.out 2).trans (show _ = some (Value.bool s.e) from rfl)
  have k20 := (blk_cell HY1.out 0).trans (show _ = some (Value.slice A' s.l.length c') from rfl)
  have k21 := (blk_cell HY1.out 1).trans (show _ = some (Value.bool s.e) from rfl)
  refine wp_region_held_drew (S := fun w' => w'.cell? ⟨g1, 0, none⟩ = some (Value.slice A s.l.length c) ∧ w'.cell? ⟨g1, 1, none⟩ = some (Value.map M) ∧ w'.cell? ⟨g1, 2, none⟩ = some (Value.bool s.e) ∧ w'.cell? ⟨g2, 0, none⟩ = some (Value.slice A' s.l.length c') ∧ w'.cell? ⟨g2, 1, none⟩ = some (Value.bool s.e)) (by kernel_rfl) ⟨k10, k11, k12, k20, k21⟩ (fun hHeld => ?_)
  refine wpAnyH_take (i := 0) (oi := { dst := some 9, op := Op.move (Operand.tmp 5), type := 24, pos := "law.go:14", after := #[], guard := none }) (v := ?_) rfl (by kernel_rfl) (by kernel_rfl) (by kernel_rfl) (fun _ _ _ h => h) (Or.inl ⟨by rfl, ?_⟩) (by assumption) ?_
  rotate_left 1
  · intro w hSw
    (try dsimp only at hSw)
    go_simp
    all_goals try with_reducible rfl
  try simp only [Act.put, List.setIfInBounds_toArray, List.set_cons_zero, List.set_cons_succ]
  refine wpAnyH_take (i := 1) (oi := { dst := some 10, op := Op.call { callee := Callee.builtin Builtin.len, args := #[Operand.tmp 9], argTypes := #[24] }, type := 3, pos := "law.go:14", after := #[{ on := 0, ground := Ground.data }], guard := none }) (v := ?_) rfl (by kernel_rfl) (by kernel_rfl) (by kernel_rfl) (fun _ _ _ h => h) (Or.inl ⟨by rfl, ?_⟩) (by assumption) ?_
  rotate_left 1
  · intro w hSw
    (try dsimp only at hSw)
    go_simp
    all_goals try with_reducible rfl
  try simp only [Act.put, List.setIfInBounds_toArray, List.set_cons_zero, List.set_cons_succ]
  refine wpAnyH_take (i := 2) (oi := { dst := some 11, op := Op.fieldAddr 33 (Operand.tmp 3) 0, type := 0, pos := "law.go:14", after := #[], guard := none }) (v := ?_) rfl (by kernel_rfl) (by kernel_rfl) (by kernel_rfl) (fun _ _ _ h => h) (Or.inl ⟨by rfl, ?_⟩) (by assumption) ?_
  rotate_left 1
  · intro w hSw
    (try dsimp only at hSw)
    go_simp
    all_goals try with_reducible rfl
  try simp only [Act.put, List.setIfInBounds_toArray, List.set_cons_zero, List.set_cons_succ]
  refine wpAnyH_take (i := 3) (oi := { dst := some 12, op := Op.load 31 (Operand.tmp 11), type := 31, pos := "law.go:14", after := #[{ on := 2, ground := Ground.data }], guard := none }) (v := ?_) rfl (by kernel_rfl) (by kernel_rfl) (by kernel_rfl) (fun _ _ _ h => h) (Or.inl ⟨by rfl, ?_⟩) (by assumption) ?_
  rotate_left 1
  · intro w hSw
    (try dsimp only at hSw)
    go_simp
    all_goals try with_reducible rfl
  try simp only [Act.put, List.setIfInBounds_toArray, List.set_cons_zero, List.set_cons_succ]
  refine wpAnyH_take (i := 4) (oi := { dst := some 13, op := Op.call { callee := Callee.builtin Builtin.len, args := #[Operand.tmp 12], argTypes := #[31] }, type := 3, pos := "law.go:14", after := #[{ on := 3, ground := Ground.data }], guard := none }) (v := ?_) rfl (by kernel_rfl) (by kernel_rfl) (by kernel_rfl) (fun _ _ _ h => h) (Or.inl ⟨by rfl, ?_⟩) (by assumption) ?_
  rotate_left 1
  · intro w hSw
    (try dsimp only at hSw)
    go_simp
    all_goals try with_reducible rfl
  try simp only [Act.put, List.setIfInBounds_toArray, List.set_cons_zero, List.set_cons_succ]
  refine wpAnyH_take (i := 5) (oi := { dst := some 14, op := Op.binOp BinOp.neq 3 (Operand.tmp 10) (Operand.tmp 13) 3, type := 4, pos := "law.go:14", after := #[{ on := 1, ground := Ground.data }, { on := 4, ground := Ground.data }], guard := none }) (v := ?_) rfl (by kernel_rfl) (by kernel_rfl) (by kernel_rfl) (fun _ _ _ h => h) (Or.inl ⟨by rfl, ?_⟩) (by assumption) ?_
  rotate_left 1
  · intro w hSw
    (try dsimp only at hSw)
    go_simp
    all_goals try with_reducible rfl
  try simp only [Act.put, List.setIfInBounds_toArray, List.set_cons_zero, List.set_cons_succ]
  refine wpAnyH_take (i := 6) (oi := { dst := some 15, op := Op.move (Operand.tmp 14), type := 4, pos := "law.go:14", after := #[{ on := 5, ground := Ground.data }], guard := none }) (v := ?_) rfl (by kernel_rfl) (by kernel_rfl) (by kernel_rfl) (fun _ _ _ h => h) (Or.inl ⟨by rfl, ?_⟩) (by assumption) ?_
  rotate_left 1
  · intro w hSw
    (try dsimp only at hSw)
    go_simp
    all_goals try with_reducible rfl
  try simp only [Act.put, List.setIfInBounds_toArray, List.set_cons_zero, List.set_cons_succ]
  refine wpAnyH_take (i := 7) (oi := { dst := some 16, op := Op.load 27 (Operand.tmp 2), type := 27, pos := "law.go:14", after := #[{ on := 6, ground := Ground.guard }], guard := some (6, false) }) (v := ?_) rfl (by kernel_rfl) (by kernel_rfl) (by kernel_rfl) (fun _ _ _ h => h) (Or.inl ⟨by go_simp, ?_⟩) (by assumption) ?_
  rotate_left 1
  · intro w hSw
    (try dsimp only at hSw)
    go_simp
    all_goals try with_reducible rfl
  try simp only [Act.put, List.setIfInBounds_toArray, List.set_cons_zero, List.set_cons_succ]
  refine wpAnyH_take (i := 9) (oi := { dst := some 18, op := Op.fieldAddr 33 (Operand.tmp 3) 1, type := 0, pos := "law.go:14", after := #[{ on := 6, ground := Ground.guard }], guard := some (6, false) }) (v := ?_) rfl (by kernel_rfl) (by kernel_rfl) (by kernel_rfl) (fun _ _ _ h => h) (Or.inl ⟨by go_simp, ?_⟩) (by assumption) ?_
  rotate_left 1
  · intro w hSw
    (try dsimp only at hSw)
    go_simp
    all_goals try with_reducible rfl
  try simp only [Act.put, List.setIfInBounds_toArray, List.set_cons_zero, List.set_cons_succ]
  refine wpAnyH_take (i := 10) (oi := { dst := some 19, op := Op.load 4 (Operand.tmp 18), type := 4, pos := "law.go:14", after := #[{ on := 9, ground := Ground.data }, { on := 6, ground := Ground.guard }], guard := some (6, false) }) (v := ?_) rfl (by kernel_rfl) (by kernel_rfl) (by kernel_rfl) (fun _ _ _ h => h) (Or.inl ⟨by go_simp, ?_⟩) (by assumption) ?_
  rotate_left 1
  · intro w hSw
    (try dsimp only at hSw)
    go_simp
    all_goals try with_reducible rfl
  try simp only [Act.put, List.setIfInBounds_toArray, List.set_cons_zero, List.set_cons_succ]
  refine wpAnyH_ready (rs := [8]) (by kernel_rfl) (by simp) ?_
  refine AllReadyH.cons (o := { dst := some 17, op := Op.call { callee := Callee.value (Operand.func 20), args := #[Operand.tmp 16], argTypes := #[27] }, type := 4, pos := "law.go:14", after := #[{ on := 7, ground := Ground.data }, { on := 6, ground := Ground.chain }, { on := 6, ground := Ground.guard }], guard := some (6, false) }) rfl (fun K hK => ?_) AllReadyH.nil
  clear hHeld
  go_simp
  refine (empty_calls (HS1.out.below (below_drew (Below.refl w1.heap.size w1)))).mono ?_
  rintro e u1 ⟨rfl, hb⟩
  have HU1 := Aside0.mk (show Below w1.heap.size w1 u1 from Below.trans ((below_drew (Below.refl w1.heap.size w1))) (hb.mono ((below_drew (Below.refl w1.heap.size w1))).size))
  clear hb k10 k11 k12 k20 k21
  have k10 := (blk_cell (blk_below HX1.out HU1.out) 0).trans (show _ = some (Value.slice A s.l.length c) from rfl)
  have k11 := (blk_cell (blk_below HX1.out HU1.out) 1).trans (show _ = some (Value.map M) from rfl)
  have k12 := (blk_cell (blk_below HX1.out HU1.out) 2).trans (show _ = some (Value.bool s.e) from rfl)
  have k20 := (blk_cell (blk_below HY1.out HU1.out) 0).trans (show _ = some (Value.slice A' s.l.length c') from rfl)
  have k21 := (blk_cell (blk_below HY1.out HU1.out) 1).trans (show _ = some (Value.bool s.e) from rfl)
  refine hK.out _ _ ⟨k10, k11, k12, k20, k21⟩ (fun hHeld => ?_)
  clear hK K
  try simp only [Act.put, List.setIfInBounds_toArray, List.set_cons_zero, List.set_cons_succ]
  refine wpAnyH_take (i := 11) (oi := { dst := some 20, op := Op.binOp BinOp.neq 4 (Operand.tmp 17) (Operand.tmp 19) 4, type := 4, pos := "law.go:14", after := #[{ on := 8, ground := Ground.data }, { on := 10, ground := Ground.data }, { on := 6, ground := Ground.guard }], guard := some (6, false) }) (v := ?_) rfl (by kernel_rfl) (by kernel_rfl) (by kernel_rfl) (fun _ _ _ h => h) (Or.inl ⟨by go_simp, ?_⟩) (by assumption) ?_
  rotate_left 1
  · intro w hSw
    (try dsimp only at hSw)
    go_simp
    all_goals try with_reducible rfl
  try simp only [Act.put, List.setIfInBounds_toArray, List.set_cons_zero, List.set_cons_succ]
  refine wpAnyH_take (i := 12) (oi := { dst := some 21, op := Op.pick (Operand.tmp 15) (Operand.const (Value.bool true)) (Operand.tmp 20), type := 4, pos := "law.go:14", after := #[{ on := 6, ground := Ground.data }, { on := 11, ground := Ground.data }], guard := none }) (v := ?_) rfl (by kernel_rfl) (by kernel_rfl) (by kernel_rfl) (fun _ _ _ h => h) (Or.inl ⟨by rfl, ?_⟩) (by assumption) ?_
  rotate_left 1
  · intro w hSw
    (try dsimp only at hSw)
    go_simp
    all_goals try with_reducible rfl
  try simp only [Act.put, List.setIfInBounds_toArray, List.set_cons_zero, List.set_cons_succ]
  refine wpAnyH_take (i := 13) (oi := { dst := some 22, op := Op.move (Operand.tmp 21), type := 4, pos := "law.go:14", after := #[{ on := 12, ground := Ground.data }, { on := 8, ground := Ground.chain }], guard := none }) (v := ?_) rfl (by kernel_rfl) (by kernel_rfl) (by kernel_rfl) (fun _ _ _ h => h) (Or.inl ⟨by rfl, ?_⟩) (by assumption) ?_
  rotate_left 1
  · intro w hSw
    (try dsimp only at hSw)
    go_simp
    all_goals try with_reducible rfl
  try simp only [Act.put, List.setIfInBounds_toArray, List.set_cons_zero, List.set_cons_succ]
  refine wpAnyH_take (i := 14) (oi := { dst := some 23, op := Op.load 27 (Operand.tmp 2), type := 27, pos := "law.go:14", after := #[{ on := 13, ground := Ground.guard }], guard := some (13, false) }) (v := ?_) rfl (by kernel_rfl) (by kernel_rfl) (by kernel_rfl) (fun _ _ _ h => h) (Or.inl ⟨by go_simp, ?_⟩) (by assumption) ?_
  rotate_left 1
  · intro w hSw
    (try dsimp only at hSw)
    go_simp
    all_goals try with_reducible rfl
  try simp only [Act.put, List.setIfInBounds_toArray, List.set_cons_zero, List.set_cons_succ]
  refine wpAnyH_take (i := 16) (oi := { dst := some 25, op := Op.load 33 (Operand.tmp 3), type := 33, pos := "law.go:14", after := #[{ on := 13, ground := Ground.guard }], guard := some (13, false) }) (v := ?_) rfl (by kernel_rfl) (by kernel_rfl) (by kernel_rfl) (fun _ _ _ h => h) (Or.inl ⟨by go_simp, ?_⟩) (by assumption) ?_
  rotate_left 1
  · intro w hSw
    (try dsimp only at hSw)
    go_simp
    all_goals try with_reducible rfl
  try simp only [Act.put, List.setIfInBounds_toArray, List.set_cons_zero, List.set_cons_succ]
  refine wpAnyH_ready (rs := [15]) (by kernel_rfl) (by simp) ?_
  refine AllReadyH.cons (o := { dst := some 24, op := Op.call { callee := Callee.value (Operand.func 21), args := #[Operand.tmp 23], argTypes := #[27] }, type := 3, pos := "law.go:14", after := #[{ on := 14, ground := Ground.data }, { on := 13, ground := Ground.chain }, { on := 13, ground := Ground.guard }], guard := some (13, false) }) rfl (fun K hK => ?_) AllReadyH.nil
  clear hHeld
  go_simp
  refine (size_calls (HS1.out.below HU1.out) HL.out.2.1).mono ?_
  rintro e u2 ⟨rfl, hb⟩
  have HU2 := Aside0.mk (show Below w1.heap.size w1 u2 from Below.trans (HU1.out) (hb.mono (HU1.out).size))
  clear hb k10 k11 k12 k20 k21
  have k10 := (blk_cell (blk_below HX1.out HU2.out) 0).trans (show _ = some (Value.slice A s.l.length c) from rfl)
  have k11 := (blk_cell (blk_below HX1.out HU2.out) 1).trans (show _ = some (Value.map M) from rfl)
  have k12 := (blk_cell (blk_below HX1.out HU2.out) 2).trans (show _ = some (Value.bool s.e) from rfl)
  have k20 := (blk_cell (blk_below HY1.out HU2.out) 0).trans (show _ = some (Value.slice A' s.l.length c') from rfl)
  have k21 := (blk_cell (blk_below HY1.out HU2.out) 1).trans (show _ = some (Value.bool s.e) from rfl)
  refine hK.out _ _ ⟨k10, k11, k12, k20, k21⟩ (fun hHeld => ?_)
  clear hK K
  try simp only [Act.put, List.setIfInBounds_toArray, List.set_cons_zero, List.set_cons_succ]
  refine wpAnyH_ready (rs := [17]) (by kernel_rfl) (by simp) ?_
  refine AllReadyH.cons (o := { dst := some 26, op := Op.call { callee := Callee.value (Operand.func 26), args := #[Operand.tmp 25], argTypes := #[33] }, type := 3, pos := "law.go:14", after := #[{ on := 16, ground := Ground.data }, { on := 15, ground := Ground.chain }, { on := 13, ground := Ground.guard }], guard := some (13, false) }) rfl (fun K hK => ?_) AllReadyH.nil
  clear hHeld
  go_simp
  refine (refsize_calls (HW1.out.below HU2.out) HL.out.1 HL.out.2.1).mono ?_
  rintro e u3 ⟨rfl, hb⟩
  have HU3 := Aside0.mk (show Below w1.heap.size w1 u3 from Below.trans (HU2.out) (hb.mono (HU2.out).size))
  clear hb k10 k11 k12 k20 k21
  have k10 := (blk_cell (blk_below HX1.out HU3.out) 0).trans (show _ = some (Value.slice A s.l.length c) from rfl)
  have k11 := (blk_cell (blk_below HX1.out HU3.out) 1).trans (show _ = some (Value.map M) from rfl)
  have k12 := (blk_cell (blk_below HX1.out HU3.out) 2).trans (show _ = some (Value.bool s.e) from rfl)
  have k20 := (blk_cell (blk_below HY1.out HU3.out) 0).trans (show _ = some (Value.slice A' s.l.length c') from rfl)
  have k21 := (blk_cell (blk_below HY1.out HU3.out) 1).trans (show _ = some (Value.bool s.e) from rfl)
  refine hK.out _ _ ⟨k10, k11, k12, k20, k21⟩ (fun hHeld => ?_)
  clear hK K
  try simp only [Act.put, List.setIfInBounds_toArray, List.set_cons_zero, List.set_cons_succ]
  refine wpAnyH_take (i := 18) (oi := { dst := some 27, op := Op.binOp BinOp.neq 3 (Operand.tmp 24) (Operand.tmp 26) 3, type := 4, pos := "law.go:14", after := #[{ on := 15, ground := Ground.data }, { on := 17, ground := Ground.data }, { on := 13, ground := Ground.guard }], guard := some (13, false) }) (v := ?_) rfl (by kernel_rfl) (by kernel_rfl) (by kernel_rfl) (fun _ _ _ h => h) (Or.inl ⟨by go_simp, ?_⟩) (by assumption) ?_
  rotate_left 1
  · intro w hSw
    (try dsimp only at hSw)
    go_simp
    all_goals try with_reducible rfl
  try simp only [Act.put, List.setIfInBounds_toArray, List.set_cons_zero, List.set_cons_succ]
  refine wpAnyH_take (i := 19) (oi := { dst := some 28, op := Op.pick (Operand.tmp 22) (Operand.const (Value.bool true)) (Operand.tmp 27), type := 4, pos := "law.go:14", after := #[{ on := 13, ground := Ground.data }, { on := 18, ground := Ground.data }], guard := none }) (v := ?_) rfl (by kernel_rfl) (by kernel_rfl) (by kernel_rfl) (fun _ _ _ h => h) (Or.inl ⟨by rfl, ?_⟩) (by assumption) ?_
  rotate_left 1
  · intro w hSw
    (try dsimp only at hSw)
    go_simp
    all_goals try with_reducible rfl
  try simp only [Act.put, List.setIfInBounds_toArray, List.set_cons_zero, List.set_cons_succ]
  refine wpAnyH_take (i := 20) (oi := { dst := some 29, op := Op.move (Operand.tmp 28), type := 4, pos := "law.go:14", after := #[{ on := 19, ground := Ground.data }, { on := 17, ground := Ground.chain }], guard := none }) (v := ?_) rfl (by kernel_rfl) (by kernel_rfl) (by kernel_rfl) (fun _ _ _ h => h) (Or.inl ⟨by rfl, ?_⟩) (by assumption) ?_
  rotate_left 1
  · intro w hSw
    (try dsimp only at hSw)
    go_simp
    all_goals try with_reducible rfl
  try simp only [Act.put, List.setIfInBounds_toArray, List.set_cons_zero, List.set_cons_succ]
  refine wpAnyH_take (i := 21) (oi := { dst := some 30, op := Op.load 27 (Operand.tmp 2), type := 27, pos := "law.go:14", after := #[{ on := 20, ground := Ground.guard }], guard := some (20, false) }) (v := ?_) rfl (by kernel_rfl) (by kernel_rfl) (by kernel_rfl) (fun _ _ _ h => h) (Or.inl ⟨by go_simp, ?_⟩) (by assumption) ?_
  rotate_left 1
  · intro w hSw
    (try dsimp only at hSw)
    go_simp
    all_goals try with_reducible rfl
  try simp only [Act.put, List.setIfInBounds_toArray, List.set_cons_zero, List.set_cons_succ]
  refine wpAnyH_take (i := 23) (oi := { dst := some 32, op := Op.load 33 (Operand.tmp 3), type := 33, pos := "law.go:14", after := #[{ on := 20, ground := Ground.guard }], guard := some (20, false) }) (v := ?_) rfl (by kernel_rfl) (by kernel_rfl) (by kernel_rfl) (fun _ _ _ h => h) (Or.inl ⟨by go_simp, ?_⟩) (by assumption) ?_
  rotate_left 1
  · intro w hSw
    (try dsimp only at hSw)
    go_simp
    all_goals try with_reducible rfl
  try simp only [Act.put, List.setIfInBounds_toArray, List.set_cons_zero, List.set_cons_succ]
  refine wpAnyH_ready (rs := [22]) (by kernel_rfl) (by simp) ?_
  refine AllReadyH.cons (o := { dst := some 31, op := Op.call { callee := Callee.value (Operand.func 22), args := #[Operand.tmp 30], argTypes := #[27] }, type := 3, pos := "law.go:14", after := #[{ on := 21, ground := Ground.data }, { on := 20, ground := Ground.chain }, { on := 20, ground := Ground.guard }], guard := some (20, false) }) rfl (fun K hK => ?_) AllReadyH.nil
  clear hHeld
  go_simp
  refine (least_calls (HS1.out.below HU3.out)).mono ?_
  rintro e u4 ⟨rfl, hb⟩
  have HU4 := Aside0.mk (show Below w1.heap.size w1 u4 from Below.trans (HU3.out) (hb.mono (HU3.out).size))
  clear hb k10 k11 k12 k20 k21
  have k10 := (blk_cell (blk_below HX1.out HU4.out) 0).trans (show _ = some (Value.slice A s.l.length c) from rfl)
  have k11 := (blk_cell (blk_below HX1.out HU4.out) 1).trans (show _ = some (Value.map M) from rfl)
  have k12 := (blk_cell (blk_below HX1.out HU4.out) 2).trans (show _ = some (Value.bool s.e) from rfl)
  have k20 := (blk_cell (blk_below HY1.out HU4.out) 0).trans (show _ = some (Value.slice A' s.l.length c') from rfl)
  have k21 := (blk_cell (blk_below HY1.out HU4.out) 1).trans (show _ = some (Value.bool s.e) from rfl)
  refine hK.out _ _ ⟨k10, k11, k12, k20, k21⟩ (fun hHeld => ?_)
  clear hK K
  try simp only [Act.put, List.setIfInBounds_toArray, List.set_cons_zero, List.set_cons_succ]
  refine wpAnyH_ready (rs := [24]) (by kernel_rfl) (by simp) ?_
  refine AllReadyH.cons (o := { dst := some 33, op := Op.call { callee := Callee.value (Operand.func 27), args := #[Operand.tmp 32], argTypes := #[33] }, type := 3, pos := "law.go:14", after := #[{ on := 23, ground := Ground.data }, { on := 22, ground := Ground.chain }, { on := 20, ground := Ground.guard }], guard := some (20, false) }) rfl (fun K hK => ?_) AllReadyH.nil
  clear hHeld
  go_simp
  refine (refleast_calls (HW1.out.below HU4.out) HL.out.1 HL.out.2.2.1).mono ?_
  rintro e u5 ⟨rfl, hb⟩
  have HU5 := Aside0.mk (show Below w1.heap.size w1 u5 from Below.trans (HU4.out) (hb.mono (HU4.out).size))
  clear hb k10 k11 k12 k20 k21
  have k10 := (blk_cell (blk_below HX1.out HU5.out) 0).trans (show _ = some (Value.slice A s.l.length c) from rfl)
  have k11 := (blk_cell (blk_below HX1.out HU5.out) 1).trans (show _ = some (Value.map M) from rfl)
  have k12 := (blk_cell (blk_below HX1.out HU5.out) 2).trans (show _ = some (Value.bool s.e) from rfl)
  have k20 := (blk_cell (blk_below HY1.out HU5.out) 0).trans (show _ = some (Value.slice A' s.l.length c') from rfl)
  have k21 := (blk_cell (blk_below HY1.out HU5.out) 1).trans (show _ = some (Value.bool s.e) from rfl)
  refine hK.out _ _ ⟨k10, k11, k12, k20, k21⟩ (fun hHeld => ?_)
  clear hK K
  try simp only [Act.put, List.setIfInBounds_toArray, List.set_cons_zero, List.set_cons_succ]
  refine wpAnyH_take (i := 25) (oi := { dst := some 34, op := Op.binOp BinOp.neq 3 (Operand.tmp 31) (Operand.tmp 33) 3, type := 4, pos := "law.go:14", after := #[{ on := 22, ground := Ground.data }, { on := 24, ground := Ground.data }, { on := 20, ground := Ground.guard }], guard := some (20, false) }) (v := ?_) rfl (by kernel_rfl) (by kernel_rfl) (by kernel_rfl) (fun _ _ _ h => h) (Or.inl ⟨by go_simp, ?_⟩) (by assumption) ?_
  rotate_left 1
  · intro w hSw
    (try dsimp only at hSw)
    go_simp
    all_goals try with_reducible rfl
  try simp only [Act.put, List.setIfInBounds_toArray, List.set_cons_zero, List.set_cons_succ]
  refine wpAnyH_take (i := 26) (oi := { dst := some 35, op := Op.pick (Operand.tmp 29) (Operand.const (Value.bool true)) (Operand.tmp 34), type := 4, pos := "law.go:14", after := #[{ on := 20, ground := Ground.data }, { on := 25, ground := Ground.data }], guard := none }) (v := ?_) rfl (by kernel_rfl) (by kernel_rfl) (by kernel_rfl) (fun _ _ _ h => h) (Or.inl ⟨by rfl, ?_⟩) (by assumption) ?_
  rotate_left 1
  · intro w hSw
    (try dsimp only at hSw)
    go_simp
    all_goals try with_reducible rfl
  try simp only [Act.put, List.setIfInBounds_toArray, List.set_cons_zero, List.set_cons_succ]
  refine wpAnyH_done (by kernel_rfl) ?_ _
  have HX2 := Aside0.mk (blk_below HX1.out HU5.out)
  have HY2 := Aside0.mk (blk_below HY1.out HU5.out)
  have HS2 := Aside0.mk (HS1.out.below HU5.out)
  have HC2 := Aside0.mk (Kd.C_below HP1.out.2.2 HU5.out)
  have HB2 := Aside0.mk (Below.trans HB1.out (HU5.out.mono HB1.out.size))
  have HR2 := Aside0.mk (HW1.out.below HU5.out)
  clear k10 k11 k12 k20 k21 HU1 HU2 HU3 HU4 HU5 HX1 HY1 HS1 HW1 HB1
  go_wp2
  go_loopw [6] (fun v6 wr => ∃ (i : Nat), v6 = .int .i64 (i : Int) ∧ Aside0 (i ≤ s.l.length) ∧ Aside0 (Below u5.heap.size u5 wr)) (fun v _ => s.l.length - (intOf v).toNat)
  case atStart => exact ⟨0, rfl, ⟨Nat.zero_le _⟩, ⟨Below.refl _ _⟩⟩
  case round =>
    obtain ⟨i, rfl, HI, HBW⟩ := hrel
    by_cases hlt : i < s.l.length
    · have e1 : decide ((i : Int) < (s.l.length : Int)) = true := decide_eq_true (by omega)
      have e2 : decide (i < s.l.length) = true := decide_eq_true hlt
      have HIL := Aside0.mk hlt
      obtain ⟨ad1, Ab1, cb1, rfl, p0, p1, p2⟩ := row_at (L := s.l) (Kd.C_below HC2.out HBW.out) i hlt
      obtain ⟨A9, c9, he9, hc9, hC9⟩ := (HR2.out.below HBW.out).lies
      injection he9 with he9
      have he10 : (Value.slice A' s.l.length c') = .slice A9 s.l.length c9 := by
        have := congrArg (fun a : Array Value => a[0]?) he9
        simpa using this
      injection he10 with he11 _ he12
      subst he11 he12
      obtain ⟨ad2, rfl, r0⟩ := str_at hC9 rfl i hlt
      have HHO := Aside0.mk (has_own s i hlt HL.out.2.2.1)
      have HXL := Aside0.mk (HL.out.2.2.2 _ (List.getElem_mem hlt))
      generalize (s.l[i]'hlt) = x at p0 p1 p2 r0 HHO HXL
      have HX9 := Aside0.mk (blk_below HX2.out HBW.out)
      have HY9 := Aside0.mk (blk_below HY2.out HBW.out)
      have HS9 := Aside0.mk (HS2.out.below HBW.out)
      have HP2 := Aside0.mk p2
      have HHC := Aside0.mk (has_calls (HS9.out.below (below_drew (Below.refl wr.heap.size wr))) x Ab1 x.length cb1 rfl (Kd.C_drew p2) HXL.out)
      rw [HHO.out] at HHC
      have s0 := Kd.C_string (P := Try.prog) (A := Ab1) (c := cb1) Try.underlying22 Try.underlying5 Try.underlying9 (Kd.C_drew p2)
      have z0 : 0 ≤ (i : Int) := by omega
      have z1 : (i : Int) < (s.l.length : Int) := by omega
      have hw2 : wrap64 ((i : Int) + 1) = ((i + 1 : Nat) : Int) := wr_big (by omega) (by have := HL.out.1; have := HIL.out; omega)
      have HRW := Aside0.mk (And.intro p0 r0)
      clear hlt p1 p2 hc9 hC9 he9
      generalize strOfNums x = str at r0 s0 HRW
      generalize x.length = m at p0 s0 HHC HRW
      have k10 := (blk_cell HX9.out 0).trans (show _ = some (Value.slice A s.l.length c) from rfl)
      have k11 := (blk_cell HX9.out 1).trans (show _ = some (Value.map M) from rfl)
      have k12 := (blk_cell HX9.out 2).trans (show _ = some (Value.bool s.e) from rfl)
      have k20 := (blk_cell HY9.out 0).trans (show _ = some (Value.slice (some ad2) s.l.length c') from rfl)
      have k21 := (blk_cell HY9.out 1).trans (show _ = some (Value.bool s.e) from rfl)
      go_wp2_with fail
      refine wp_region_held_drew (S := fun w' => w'.cell? ⟨g1, 0, none⟩ = some (Value.slice A s.l.length c) ∧ w'.cell? ⟨g1, 1, none⟩ = some (Value.map M) ∧ w'.cell? ⟨g1, 2, none⟩ = some (Value.bool s.e) ∧ w'.cell? ⟨g2, 0, none⟩ = some (Value.slice (some ad2) s.l.length c') ∧ w'.cell? ⟨g2, 1, none⟩ = some (Value.bool s.e) ∧ w'.cell? (ad1.add i) = some (.slice Ab1 m cb1) ∧ w'.cell? (ad2.add i) = some (.string str)) (by kernel_rfl) ⟨k10, k11, k12, k20, k21, p0, r0⟩ (fun hHeld => ?_)
      refine wpAnyH_take (i := 0) (oi := { dst := some 42, op := Op.move (Operand.tmp 5), type := 24, pos := "law.go:18", after := #[], guard := none }) (v := ?_) rfl (by kernel_rfl) (by kernel_rfl) (by kernel_rfl) (fun _ _ _ h => h) (Or.inl ⟨by rfl, ?_⟩) (by assumption) ?_
      rotate_left 1
      · intro w hSw
        (try dsimp only at hSw)
        go_simp
        all_goals try with_reducible rfl
      try simp only [Act.put, List.setIfInBounds_toArray, List.set_cons_zero, List.set_cons_succ]
      refine wpAnyH_take (i := 1) (oi := { dst := some 43, op := Op.move (Operand.tmp 6), type := 3, pos := "law.go:18", after := #[], guard := none }) (v := ?_) rfl (by kernel_rfl) (by kernel_rfl) (by kernel_rfl) (fun _ _ _ h => h) (Or.inl ⟨by rfl, ?_⟩) (by assumption) ?_
      rotate_left 1
      · intro w hSw
        (try dsimp only at hSw)
        go_simp
        all_goals try with_reducible rfl
      try simp only [Act.put, List.setIfInBounds_toArray, List.set_cons_zero, List.set_cons_succ]
      refine wpAnyH_take (i := 2) (oi := { dst := some 44, op := Op.indexAddr 24 (Operand.tmp 42) (Operand.tmp 43), type := 0, pos := "law.go:18", after := #[{ on := 0, ground := Ground.data }, { on := 1, ground := Ground.data }], guard := none }) (v := ?_) rfl (by kernel_rfl) (by kernel_rfl) (by kernel_rfl) (fun _ _ _ h => h) (Or.inl ⟨by rfl, ?_⟩) (by assumption) ?_
      rotate_left 1
      · intro w hSw
        (try dsimp only at hSw)
        go_simp
        all_goals try with_reducible rfl
      try simp only [Act.put, List.setIfInBounds_toArray, List.set_cons_zero, List.set_cons_succ]
      refine wpAnyH_take (i := 3) (oi := { dst := some 45, op := Op.load 22 (Operand.tmp 44), type := 22, pos := "law.go:18", after := #[{ on := 2, ground := Ground.data }], guard := none }) (v := ?_) rfl (by kernel_rfl) (by kernel_rfl) (by kernel_rfl) (fun _ _ _ h => h) (Or.inl ⟨by rfl, ?_⟩) (by assumption) ?_
      rotate_left 1
      · intro w hSw
        (try dsimp only at hSw)
        go_simp
        all_goals try with_reducible rfl
      try simp only [Act.put, List.setIfInBounds_toArray, List.set_cons_zero, List.set_cons_succ]
      refine wpAnyH_take (i := 5) (oi := { dst := some 47, op := Op.fieldAddr 33 (Operand.tmp 3) 0, type := 0, pos := "law.go:18", after := #[], guard := none }) (v := ?_) rfl (by kernel_rfl) (by kernel_rfl) (by kernel_rfl) (fun _ _ _ h => h) (Or.inl ⟨by rfl, ?_⟩) (by assumption) ?_
      rotate_left 1
      · intro w hSw
        (try dsimp only at hSw)
        go_simp
        all_goals try with_reducible rfl
      try simp only [Act.put, List.setIfInBounds_toArray, List.set_cons_zero, List.set_cons_succ]
      refine wpAnyH_take (i := 6) (oi := { dst := some 48, op := Op.load 31 (Operand.tmp 47), type := 31, pos := "law.go:18", after := #[{ on := 5, ground := Ground.data }], guard := none }) (v := ?_) rfl (by kernel_rfl) (by kernel_rfl) (by kernel_rfl) (fun _ _ _ h => h) (Or.inl ⟨by rfl, ?_⟩) (by assumption) ?_
      rotate_left 1
      · intro w hSw
        (try dsimp only at hSw)
        go_simp
        all_goals try with_reducible rfl
      try simp only [Act.put, List.setIfInBounds_toArray, List.set_cons_zero, List.set_cons_succ]
      refine wpAnyH_take (i := 7) (oi := { dst := some 49, op := Op.move (Operand.tmp 6), type := 3, pos := "law.go:18", after := #[], guard := none }) (v := ?_) rfl (by kernel_rfl) (by kernel_rfl) (by kernel_rfl) (fun _ _ _ h => h) (Or.inl ⟨by rfl, ?_⟩) (by assumption) ?_
      rotate_left 1
      · intro w hSw
        (try dsimp only at hSw)
        go_simp
        all_goals try with_reducible rfl
      try simp only [Act.put, List.setIfInBounds_toArray, List.set_cons_zero, List.set_cons_succ]
      refine wpAnyH_take (i := 8) (oi := { dst := some 50, op := Op.indexAddr 31 (Operand.tmp 48) (Operand.tmp 49), type := 0, pos := "law.go:18", after := #[{ on := 6, ground := Ground.data }, { on := 7, ground := Ground.data }], guard := none }) (v := ?_) rfl (by kernel_rfl) (by kernel_rfl) (by kernel_rfl) (fun _ _ _ h => h) (Or.inl ⟨by rfl, ?_⟩) (by assumption) ?_
      rotate_left 1
      · intro w hSw
        (try dsimp only at hSw)
        go_simp
        all_goals try with_reducible rfl
      try simp only [Act.put, List.setIfInBounds_toArray, List.set_cons_zero, List.set_cons_succ]
      refine wpAnyH_take (i := 9) (oi := { dst := some 51, op := Op.load 9 (Operand.tmp 50), type := 9, pos := "law.go:18", after := #[{ on := 8, ground := Ground.data }], guard := none }) (v := ?_) rfl (by kernel_rfl) (by kernel_rfl) (by kernel_rfl) (fun _ _ _ h => h) (Or.inl ⟨by rfl, ?_⟩) (by assumption) ?_
      rotate_left 1
      · intro w hSw
        (try dsimp only at hSw)
        go_simp
        all_goals try with_reducible rfl
      try simp only [Act.put, List.setIfInBounds_toArray, List.set_cons_zero, List.set_cons_succ]
      refine wpAnyH_ready (rs := [4]) (by kernel_rfl) (by simp) ?_
      refine AllReadyH.cons (o := { dst := some 46, op := Op.convert 22 9 (Operand.tmp 45), type := 9, pos := "law.go:18", after := #[{ on := 3, ground := Ground.data }], guard := none }) rfl (fun K hK => ?_) AllReadyH.nil
      clear hHeld
      go_simp
      refine hK.out _ _ ⟨k10, k11, k12, k20, k21, p0, r0⟩ (fun hHeld => ?_)
      clear hK K
      try simp only [Act.put, List.setIfInBounds_toArray, List.set_cons_zero, List.set_cons_succ]
      refine wpAnyH_take (i := 10) (oi := { dst := some 52, op := Op.binOp BinOp.neq 9 (Operand.tmp 46) (Operand.tmp 51) 9, type := 4, pos := "law.go:18", after := #[{ on := 4, ground := Ground.data }, { on := 9, ground := Ground.data }], guard := none }) (v := ?_) rfl (by kernel_rfl) (by kernel_rfl) (by kernel_rfl) (fun _ _ _ h => h) (Or.inl ⟨by rfl, ?_⟩) (by assumption) ?_
      rotate_left 1
      · intro w hSw
        (try dsimp only at hSw)
        go_simp
        all_goals try with_reducible rfl
      try simp only [Act.put, List.setIfInBounds_toArray, List.set_cons_zero, List.set_cons_succ]
      refine wpAnyH_take (i := 11) (oi := { dst := some 53, op := Op.move (Operand.tmp 52), type := 4, pos := "law.go:18", after := #[{ on := 10, ground := Ground.data }], guard := none }) (v := ?_) rfl (by kernel_rfl) (by kernel_rfl) (by kernel_rfl) (fun _ _ _ h => h) (Or.inl ⟨by rfl, ?_⟩) (by assumption) ?_
      rotate_left 1
      · intro w hSw
        (try dsimp only at hSw)
        go_simp
        all_goals try with_reducible rfl
      try simp only [Act.put, List.setIfInBounds_toArray, List.set_cons_zero, List.set_cons_succ]
      refine wpAnyH_take (i := 12) (oi := { dst := some 54, op := Op.load 27 (Operand.tmp 2), type := 27, pos := "law.go:18", after := #[{ on := 11, ground := Ground.guard }], guard := some (11, false) }) (v := ?_) rfl (by kernel_rfl) (by kernel_rfl) (by kernel_rfl) (fun _ _ _ h => h) (Or.inl ⟨by go_simp, ?_⟩) (by assumption) ?_
      rotate_left 1
      · intro w hSw
        (try dsimp only at hSw)
        go_simp
        all_goals try with_reducible rfl
      try simp only [Act.put, List.setIfInBounds_toArray, List.set_cons_zero, List.set_cons_succ]
      refine wpAnyH_take (i := 13) (oi := { dst := some 55, op := Op.move (Operand.tmp 5), type := 24, pos := "law.go:18", after := #[{ on := 11, ground := Ground.guard }], guard := some (11, false) }) (v := ?_) rfl (by kernel_rfl) (by kernel_rfl) (by kernel_rfl) (fun _ _ _ h => h) (Or.inl ⟨by go_simp, ?_⟩) (by assumption) ?_
      rotate_left 1
      · intro w hSw
        (try dsimp only at hSw)
        go_simp
        all_goals try with_reducible rfl
      try simp only [Act.put, List.setIfInBounds_toArray, List.set_cons_zero, List.set_cons_succ]
      refine wpAnyH_take (i := 14) (oi := { dst := some 56, op := Op.move (Operand.tmp 6), type := 3, pos := "law.go:18", after := #[{ on := 11, ground := Ground.guard }], guard := some (11, false) }) (v := ?_) rfl (by kernel_rfl) (by kernel_rfl) (by kernel_rfl) (fun _ _ _ h => h) (Or.inl ⟨by go_simp, ?_⟩) (by assumption) ?_
      rotate_left 1
      · intro w hSw
        (try dsimp only at hSw)
        go_simp
        all_goals try with_reducible rfl
      try simp only [Act.put, List.setIfInBounds_toArray, List.set_cons_zero, List.set_cons_succ]
      refine wpAnyH_take (i := 15) (oi := { dst := some 57, op := Op.indexAddr 24 (Operand.tmp 55) (Operand.tmp 56), type := 0, pos := "law.go:18", after := #[{ on := 13, ground := Ground.data }, { on := 14, ground := Ground.data }, { on := 11, ground := Ground.guard }], guard := some (11, false) }) (v := ?_) rfl (by kernel_rfl) (by kernel_rfl) (by kernel_rfl) (fun _ _ _ h => h) (Or.inl ⟨by go_simp, ?_⟩) (by assumption) ?_
      rotate_left 1
      · intro w hSw
        (try dsimp only at hSw)
        go_simp
        all_goals try with_reducible rfl
      try simp only [Act.put, List.setIfInBounds_toArray, List.set_cons_zero, List.set_cons_succ]
      refine wpAnyH_take (i := 16) (oi := { dst := some 58, op := Op.load 22 (Operand.tmp 57), type := 22, pos := "law.go:18", after := #[{ on := 15, ground := Ground.data }, { on := 11, ground := Ground.guard }], guard := some (11, false) }) (v := ?_) rfl (by kernel_rfl) (by kernel_rfl) (by kernel_rfl) (fun _ _ _ h => h) (Or.inl ⟨by go_simp, ?_⟩) (by assumption) ?_
      rotate_left 1
      · intro w hSw
        (try dsimp only at hSw)
        go_simp
        all_goals try with_reducible rfl
      try simp only [Act.put, List.setIfInBounds_toArray, List.set_cons_zero, List.set_cons_succ]
      refine wpAnyH_ready (rs := [17]) (by kernel_rfl) (by simp) ?_
      refine AllReadyH.cons (o := { dst := some 59, op := Op.call { callee := Callee.value (Operand.func 14), args := #[Operand.tmp 54, Operand.tmp 58], argTypes := #[27, 22] }, type := 4, pos := "law.go:18", after := #[{ on := 12, ground := Ground.data }, { on := 16, ground := Ground.data }, { on := 11, ground := Ground.chain }, { on := 11, ground := Ground.guard }], guard := some (11, false) }) rfl (fun K hK => ?_) AllReadyH.nil
      clear hHeld
      go_simp
      refine HHC.out.mono ?_
      rintro e u9 ⟨rfl, hb⟩
      have HU9 := Aside0.mk (show Below wr.heap.size wr u9 from Below.trans (below_drew (Below.refl _ _)) hb)
      clear hb k10 k11 k12 k20 k21 p0 r0
      have k10 := (blk_cell (blk_below HX9.out HU9.out) 0).trans (show _ = some (Value.slice A s.l.length c) from rfl)
      have k11 := (blk_cell (blk_below HX9.out HU9.out) 1).trans (show _ = some (Value.map M) from rfl)
      have k12 := (blk_cell (blk_below HX9.out HU9.out) 2).trans (show _ = some (Value.bool s.e) from rfl)
      have k20 := (blk_cell (blk_below HY9.out HU9.out) 0).trans (show _ = some (Value.slice (some ad2) s.l.length c') from rfl)
      have k21 := (blk_cell (blk_below HY9.out HU9.out) 1).trans (show _ = some (Value.bool s.e) from rfl)
      have p0 := Go.Proofs.YtkpfnhkfecpefaaW.PrintWords.cell_kept HRW.out.1 (Kept.of_below HU9.out (fun _ => False)) (fun h => h)
      have r0 := Go.Proofs.YtkpfnhkfecpefaaW.PrintWords.cell_kept HRW.out.2 (Kept.of_below HU9.out (fun _ => False)) (fun h => h)
      refine hK.out _ _ ⟨k10, k11, k12, k20, k21, p0, r0⟩ (fun hHeld => ?_)
      clear hK K
      try simp only [Act.put, List.setIfInBounds_toArray, List.set_cons_zero, List.set_cons_succ]
      refine wpAnyH_take (i := 18) (oi := { dst := some 60, op := Op.unOp UnOp.not 4 (Operand.tmp 59), type := 4, pos := "law.go:18", after := #[{ on := 17, ground := Ground.data }, { on := 11, ground := Ground.guard }], guard := some (11, false) }) (v := ?_) rfl (by kernel_rfl) (by kernel_rfl) (by kernel_rfl) (fun _ _ _ h => h) (Or.inl ⟨by go_simp, ?_⟩) (by assumption) ?_
      rotate_left 1
      · intro w hSw
        (try dsimp only at hSw)
        go_simp
        all_goals try with_reducible rfl
      try simp only [Act.put, List.setIfInBounds_toArray, List.set_cons_zero, List.set_cons_succ]
      refine wpAnyH_take (i := 19) (oi := { dst := some 61, op := Op.pick (Operand.tmp 53) (Operand.const (Value.bool true)) (Operand.tmp 60), type := 4, pos := "law.go:18", after := #[{ on := 11, ground := Ground.data }, { on := 18, ground := Ground.data }], guard := none }) (v := ?_) rfl (by kernel_rfl) (by kernel_rfl) (by kernel_rfl) (fun _ _ _ h => h) (Or.inl ⟨by rfl, ?_⟩) (by assumption) ?_
      rotate_left 1
      · intro w hSw
        (try dsimp only at hSw)
        go_simp
        all_goals try with_reducible rfl
      try simp only [Act.put, List.setIfInBounds_toArray, List.set_cons_zero, List.set_cons_succ]
      refine wpAnyH_done (by kernel_rfl) ?_ _
      go_wp2
      go_roundw
      case rel => exact ⟨i + 1, by first | rfl | exact congrArg (Value.int .i64) hw2, HIL, ⟨Below.trans HBW.out (HU9.out.mono HBW.out.size)⟩⟩
      case measure => exact ms_step HIL.out (by first | exact hw2 | simp)
    · have e1 : decide ((i : Int) < (s.l.length : Int)) = false := decide_eq_false (by omega)
      have e2 : decide (i < s.l.length) = false := decide_eq_false hlt
      have HX9 := Aside0.mk (blk_below HX2.out HBW.out)
      have HY9 := Aside0.mk (blk_below HY2.out HBW.out)
      have HS9 := Aside0.mk (HS2.out.below HBW.out)
      have HHC := Aside0.mk (show Calls Try.prog 14 #[.agg #[.slice A s.l.length c, .map M, .bool s.e], .slice none 0 0] wr.drew fun e w' => e = .returned (.bool s.e) ∧ Below wr.drew.heap.size wr.drew w' from has_calls (HS9.out.below (below_drew (Below.refl wr.heap.size wr))) [] none 0 0 rfl ⟨rfl, Nat.zero_le _, fun h => absurd h (by decide)⟩ (Nat.zero_le _))
      clear hlt
      have k10 := (blk_cell HX9.out 0).trans (show _ = some (Value.slice A s.l.length c) from rfl)
      have k11 := (blk_cell HX9.out 1).trans (show _ = some (Value.map M) from rfl)
      have k12 := (blk_cell HX9.out 2).trans (show _ = some (Value.bool s.e) from rfl)
      have k20 := (blk_cell HY9.out 0).trans (show _ = some (Value.slice A' s.l.length c') from rfl)
      have k21 := (blk_cell HY9.out 1).trans (show _ = some (Value.bool s.e) from rfl)
      go_wp2_with fail
      refine wp_region_held_drew (S := fun w' => w'.cell? ⟨g1, 0, none⟩ = some (Value.slice A s.l.length c) ∧ w'.cell? ⟨g1, 1, none⟩ = some (Value.map M) ∧ w'.cell? ⟨g1, 2, none⟩ = some (Value.bool s.e) ∧ w'.cell? ⟨g2, 0, none⟩ = some (Value.slice A' s.l.length c') ∧ w'.cell? ⟨g2, 1, none⟩ = some (Value.bool s.e)) (by kernel_rfl) ⟨k10, k11, k12, k20, k21⟩ (fun hHeld => ?_)
      refine wpAnyH_take (i := 0) (oi := { dst := some 62, op := Op.load 27 (Operand.tmp 2), type := 27, pos := "law.go:22", after := #[], guard := none }) (v := ?_) rfl (by kernel_rfl) (by kernel_rfl) (by kernel_rfl) (fun _ _ _ h => h) (Or.inl ⟨by rfl, ?_⟩) (by assumption) ?_
      rotate_left 1
      · intro w hSw
        (try dsimp only at hSw)
        go_simp
        all_goals try with_reducible rfl
      try simp only [Act.put, List.setIfInBounds_toArray, List.set_cons_zero, List.set_cons_succ]
      refine wpAnyH_take (i := 2) (oi := { dst := some 64, op := Op.fieldAddr 33 (Operand.tmp 3) 1, type := 0, pos := "law.go:22", after := #[], guard := none }) (v := ?_) rfl (by kernel_rfl) (by kernel_rfl) (by kernel_rfl) (fun _ _ _ h => h) (Or.inl ⟨by rfl, ?_⟩) (by assumption) ?_
      rotate_left 1
      · intro w hSw
        (try dsimp only at hSw)
        go_simp
        all_goals try with_reducible rfl
      try simp only [Act.put, List.setIfInBounds_toArray, List.set_cons_zero, List.set_cons_succ]
      refine wpAnyH_take (i := 3) (oi := { dst := some 65, op := Op.load 4 (Operand.tmp 64), type := 4, pos := "law.go:22", after := #[{ on := 2, ground := Ground.data }], guard := none }) (v := ?_) rfl (by kernel_rfl) (by kernel_rfl) (by kernel_rfl) (fun _ _ _ h => h) (Or.inl ⟨by rfl, ?_⟩) (by assumption) ?_
      rotate_left 1
      · intro w hSw
        (try dsimp only at hSw)
        go_simp
        all_goals try with_reducible rfl
      try simp only [Act.put, List.setIfInBounds_toArray, List.set_cons_zero, List.set_cons_succ]
      refine wpAnyH_ready (rs := [1]) (by kernel_rfl) (by simp) ?_
      refine AllReadyH.cons (o := { dst := some 63, op := Op.call { callee := Callee.value (Operand.func 14), args := #[Operand.tmp 62, Operand.const (Value.slice none 0 0)], argTypes := #[27, 22] }, type := 4, pos := "law.go:22", after := #[{ on := 0, ground := Ground.data }], guard := none }) rfl (fun K hK => ?_) AllReadyH.nil
      clear hHeld
      go_simp
      refine HHC.out.mono ?_
      rintro e u9 ⟨rfl, hb⟩
      have HU9 := Aside0.mk (show Below wr.heap.size wr u9 from Below.trans (below_drew (Below.refl _ _)) hb)
      clear hb k10 k11 k12 k20 k21
      have k10 := (blk_cell (blk_below HX9.out HU9.out) 0).trans (show _ = some (Value.slice A s.l.length c) from rfl)
      have k11 := (blk_cell (blk_below HX9.out HU9.out) 1).trans (show _ = some (Value.map M) from rfl)
      have k12 := (blk_cell (blk_below HX9.out HU9.out) 2).trans (show _ = some (Value.bool s.e) from rfl)
      have k20 := (blk_cell (blk_below HY9.out HU9.out) 0).trans (show _ = some (Value.slice A' s.l.length c') from rfl)
      have k21 := (blk_cell (blk_below HY9.out HU9.out) 1).trans (show _ = some (Value.bool s.e) from rfl)
      refine hK.out _ _ ⟨k10, k11, k12, k20, k21⟩ (fun hHeld => ?_)
      clear hK K
      try simp only [Act.put, List.setIfInBounds_toArray, List.set_cons_zero, List.set_cons_succ]
      refine wpAnyH_take (i := 4) (oi := { dst := some 66, op := Op.binOp BinOp.eql 4 (Operand.tmp 63) (Operand.tmp 65) 4, type := 4, pos := "law.go:22", after := #[{ on := 1, ground := Ground.data }, { on := 3, ground := Ground.data }], guard := none }) (v := ?_) rfl (by kernel_rfl) (by kernel_rfl) (by kernel_rfl) (fun _ _ _ h => h) (Or.inl ⟨by rfl, ?_⟩) (by assumption) ?_
      rotate_left 1
      · intro w hSw
        (try dsimp only at hSw)
        go_simp
        all_goals try with_reducible rfl
      try simp only [Act.put, List.setIfInBounds_toArray, List.set_cons_zero, List.set_cons_succ]
      refine wpAnyH_take (i := 5) (oi := { dst := some 4, op := Op.assign (Operand.tmp 66), type := 4, pos := "law.go:22", after := #[{ on := 4, ground := Ground.data }, { on := 1, ground := Ground.chain }, { on := 0, ground := Ground.phase }, { on := 1, ground := Ground.phase }, { on := 2, ground := Ground.phase }, { on := 3, ground := Ground.phase }, { on := 4, ground := Ground.phase }], guard := none }) (v := ?_) rfl (by kernel_rfl) (by kernel_rfl) (by kernel_rfl) (fun _ _ _ h => h) (Or.inl ⟨by rfl, ?_⟩) (by assumption) ?_
      rotate_left 1
      · intro w hSw
        (try dsimp only at hSw)
        go_simp
        all_goals try with_reducible rfl
      try simp only [Act.put, List.setIfInBounds_toArray, List.set_cons_zero, List.set_cons_succ]
      refine wpAnyH_done (by kernel_rfl) ?_ _
      go_wp2
      go_ret
      exact ⟨rfl, Below.trans HB2.out ((Below.trans HBW.out (HU9.out.mono HBW.out.size)).mono HB2.out.size)⟩
end Go.Proofs.Ytkpfnhkfecpefaa.Pat
