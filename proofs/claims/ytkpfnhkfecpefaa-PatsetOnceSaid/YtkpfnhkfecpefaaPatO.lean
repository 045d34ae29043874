/- PatsetOf: the set of any texts is the document's. -/
import Derived.Test.YtkpfnhkfecpefaaPatT
namespace Go.Proofs.Ytkpfnhkfecpefaa.Pat
open Go Go.RowKit Go.Proofs Go.Proofs.YtkpfnhkfecpefaaW.PrintWords Go.Proofs.YtkpfnhkfecpefaaW.PrintMore Go.Proofs.YtkpfnhkfecpefaaW.PrintLast Go.Proofs.Ytkpfnhkfecpefaa.Ref Go.Proofs.Ytkpfnhkfecpefaa.Aid
set_option linter.unusedVariables false
set_option linter.unusedSimpArgs false
attribute [local go_sem] max2_int min2_int max_two min_two max_three min_three
theorem sk_nil {b : List Int} (h : b.length = 0) : sk b = [] := by rw [List.length_eq_zero_iff.mp h]; rfl
theorem sk_len {a b : List Int} (h : sk a = sk b) : a.length = b.length := by
  have := congrArg List.length h
  unfold sk at this
  rwa [List.length_map, List.length_map] at this
theorem in_cons (x : List Int) (L : List (List Int)) (b : List Int) : inP (x :: L) b = (decide (sk b = sk x) || inP L b) := by
  unfold inP
  rw [List.map_cons, Bool.eq_iff_iff]
  simp
theorem has_add (s : PS) (x b : List Int) : hasP (addP s x) b = (hasP s b || decide (sk b = sk x)) := by
  unfold hasP addP
  by_cases hb : b.length = 0
  · rw [if_pos hb, if_pos hb]
    by_cases hx : x.length = 0
    · rw [if_pos hx, sk_nil hb, sk_nil hx, decide_eq_true rfl, Bool.or_true]
    · have hne : ¬ sk b = sk x := fun e => hx ((sk_len e).symm.trans hb)
      rw [if_neg hx, decide_eq_false hne, Bool.or_false]
      split <;> rfl
  · rw [if_neg hb, if_neg hb]
    by_cases hx : x.length = 0
    · have hne : ¬ sk b = sk x := fun e => hb ((sk_len e).trans hx)
      rw [if_pos hx, decide_eq_false hne, Bool.or_false]
    · rw [if_neg hx]
      by_cases hi : inP s.l x = true
      · rw [if_pos hi]
        by_cases he : sk b = sk x
        · have : inP s.l b = true := by
            unfold inP at hi ⊢
            rw [he]; exact hi
          rw [this]; rfl
        · rw [decide_eq_false he, Bool.or_false]
      · rw [if_neg hi, inP_snoc]
theorem has_fold : ∀ (L : List (List Int)) (s : PS) (b : List Int), hasP (L.foldl addP s) b = (hasP s b || inP L b)
  | [], s, b => by
    have : inP [] b = false := rfl
    rw [this, Bool.or_false]
    rfl
  | x :: L, s, b => by rw [List.foldl_cons, has_fold L, has_add, in_cons, Bool.or_assoc]
theorem has_of (L : List (List Int)) (b : List Int) : hasP (ofP L) b = inP L b := by
  unfold ofP
  rw [has_fold]
  have : hasP ⟨[], false⟩ b = false := by unfold hasP; split <;> rfl
  rw [this, Bool.false_or]
theorem totN_le : ∀ (L : List (List Int)), (∀ p ∈ L, p.length ≤ 300) → totN L ≤ 300 * L.length
  | [], h => Nat.le_refl _
  | x :: L, h => by
    rw [totN, List.length_cons]
    have h1 := h x List.mem_cons_self
    have h2 := totN_le L (fun p hp => h p (List.mem_cons_of_mem _ hp))
    omega
theorem of_facts (L : List (List Int)) (h1 : L.length ≤ 60) (h2 : ∀ p ∈ L, p.length ≤ 300) : (ofP L).l.length ≤ 60 ∧ totN (ofP L).l ≤ 18000 ∧ (∀ p ∈ (ofP L).l, 0 < p.length) ∧ (∀ p ∈ (ofP L).l, p.length ≤ 18000) := by
  have h3 := ofP_len L ⟨[], false⟩
  have h4 := of_tot L ⟨[], false⟩
  have h5 := totN_le L h2
  have h6 : totN (ofP L).l ≤ 18000 := by
    have e : totN (L.foldl addP ⟨[], false⟩).l ≤ totN ([] : List (List Int)) + totN L := h4
    have e2 : totN ([] : List (List Int)) = 0 := rfl
    show totN (L.foldl addP ⟨[], false⟩).l ≤ _
    omega
  refine ⟨?_, h6, of_pos _ _ (fun p hp => absurd hp (by simp)), fun p hp => ?_⟩
  · have e : (L.foldl addP ⟨[], false⟩).l.length ≤ ([] : List (List Int)).length + L.length := h3
    simp only [List.length_nil] at e
    show (L.foldl addP ⟨[], false⟩).l.length ≤ _
    omega
  · have : ∀ (M : List (List Int)), p ∈ M → p.length ≤ totN M := by
      intro M
      induction M with
      | nil => intro h; cases h
      | cons x M ih =>
        intro h
        rw [totN]
        rcases List.mem_cons.mp h with rfl | h
        · omega
        · have := ih h; omega
    exact Nat.le_trans (this _ hp) h6
theorem refC_zero (w : World) : RefC w (.agg #[.slice none 0 0, .bool false]) ⟨[], false⟩ := ⟨⟨none, 0, rfl, Nat.le_refl _, ⟨rfl, Nat.zero_le _, fun h => absurd h (by decide)⟩⟩⟩
theorem zeroRS (W : World) : (zeroValue 33).run Try.prog W = .ok (.agg #[.slice none 0 0, .bool false]) W := by
  have h : (Try.prog.info? 33).map (·.zero) = some (some (.agg #[.slice none 0 0, .bool false])) := by kernel_rfl
  obtain ⟨i, hi, he⟩ := Option.map_eq_some_iff.mp h
  simp [zeroValue, typeInfo, hi, he, Sem.run_bind]
set_option maxHeartbeats 16000000 in
set_option maxRecDepth 100000 in
theorem pof_calls (A0 Ab : Option Addr) (c0 cb : Nat) (l0 : List (List Int)) (b : List Int) (hl0 : l0.length * 24 ≤ 140737488351232) (w : World) (hr0 : Kd.C kB w A0 l0.length l0) (hrb : Kd.C (Kd.int .u8) w Ab b.length b) :
    Calls Try.prog 4 #[.slice A0 l0.length c0, .slice Ab b.length cb] w fun e w' => e = .returned (.bool true) ∧ Below w.heap.size w w' := by
  have HR0 := Aside0.mk hr0
  have HRB := Aside0.mk hrb
  have HL0 := Aside0.mk hl0
  have hu := Try.underlying27
  have hu3 := Try.underlying33
  have hzs := zeroSet
  have hz3 := zeroRS
  clear hr0 hrb hl0
  go_enter Try.func4, Try.ntmps4
  go_wp2_with fail
  refine (awake_calls _).mono ?_
  rintro e w1 ⟨rfl, hb1⟩
  have HB1 := Aside0.mk hb1
  clear hb1
  go_wp2_with fail
  refine (texts_calls w1 A0 c0 l0 (Kd.C_below HR0.out HB1.out) HL0.out).mono ?_
  rintro e w2 ⟨v, rfl, At, nt, ct, r, rfl, hb2, ht2⟩
  have HB2 := Aside0.mk (Below.trans HB1.out (hb2.mono HB1.out.size))
  have HT2 := Aside0.mk ht2
  clear hb2 ht2
  cases r with
  | false =>
    go_wp2
    go_ret
    exact ⟨rfl, HB2.out⟩
  | true =>
  obtain ⟨t1, t2, t3, t4, t5⟩ := HT2.out rfl
  subst t3
  have HF0 := Aside0.mk (And.intro t1 t2)
  have HTC := Aside0.mk (And.intro t4 t5)
  clear HT2 t1 t2 t4 t5
  by_cases hlb : 300 < b.length
  · have d4 : decide ((b.length : Int) > 300) = true := decide_eq_true (by omega)
    have d5 : decide ((300 : Int) < (b.length : Int)) = true := decide_eq_true (by omega)
    have d6 : decide (300 < b.length) = true := decide_eq_true hlb
    clear hlb
    go_wp2
    go_ret
    exact ⟨rfl, HB2.out⟩
  have d4 : decide ((b.length : Int) > 300) = false := decide_eq_false (by omega)
  have d5 : decide ((300 : Int) < (b.length : Int)) = false := decide_eq_false (by omega)
  have d6 : decide (300 < b.length) = false := decide_eq_false hlb
  have HLN := Aside0.mk (show b.length ≤ 300 by omega)
  clear hlb
  go_wp2_with fail
  refine (of_calls w2 A0 c0 l0 (Kd.C_below HR0.out HB2.out) (by have := HF0.out.1; omega) (fun p hp => Nat.le_trans (HF0.out.2 p hp) (by decide))).mono ?_
  rintro e w3 ⟨v3, rfl, hs3, hb3⟩
  have HS3' := Aside0.mk hs3.toC
  have HFA := Aside0.mk (of_facts l0 HF0.out.1 HF0.out.2)
  have HHO := Aside0.mk (has_of l0 b)
  have HRO := Aside0.mk (fun (W : World) (hC : Kd.C Kd.string W At l0.length (l0.map strOfNums)) => refof_calls l0 At ct W hC HTC.out.1 (by have := HF0.out.1; omega))
  generalize ofP l0 = s at HS3' HFA HHO HRO
  obtain ⟨A2, c2, M2, rfl, _, _, _, _⟩ := HS3'.out.lies
  have HA3 := Aside0.mk (below_alloc (Below.refl w3.heap.size w3) (.cells #[.slice A2 s.l.length c2, .map M2, .bool s.e] 27))
  have HX3 := Aside0.mk (blk_new w3 (.cells #[.slice A2 s.l.length c2, .map M2, .bool s.e] 27))
  have HS3 := Aside0.mk (HS3'.out.below HA3.out)
  have HQ3 := Aside0.mk (Below.trans hb3 (HA3.out.mono hb3.size))
  have HB3 := Aside0.mk (Below.trans HB2.out (HQ3.out.mono HB2.out.size))
  have HT3 := Aside0.mk (Kd.C_below HTC.out.2 HQ3.out)
  clear hs3 hb3 HS3' HA3 HQ3
  go_wp2_with fail
  refine (HRO.out _ HT3.out).mono ?_
  rintro e w4 ⟨v4, rfl, hq4, hb4⟩
  obtain ⟨A3, c3, rfl, _, _⟩ := hq4.lies
  have HA4 := Aside0.mk (below_alloc (below_alloc (Below.refl w4.heap.size w4) (.cells #[.slice A3 s.l.length c3, .bool s.e] 33)) (.cells #[.slice none 0 0, .map none, .bool false] 27))
  have HQ4 := Aside0.mk (Below.trans hb4 (HA4.out.mono hb4.size))
  have HX4 := Aside0.mk (blk_below HX3.out HQ4.out)
  have HY4 := Aside0.mk (blk_alloc (blk_new w4 (.cells #[.slice A3 s.l.length c3, .bool s.e] 33)) (.cells #[.slice none 0 0, .map none, .bool false] 27))
  have HZ4 := Aside0.mk (blk_new (w4.alloc (.cells #[.slice A3 s.l.length c3, .bool s.e] 33)) (.cells #[.slice none 0 0, .map none, .bool false] 27))
  rw [World.size_alloc] at HZ4
  have HS4 := Aside0.mk (HS3.out.below HQ4.out)
  have HW4 := Aside0.mk (hq4.below HA4.out)
  have HT4 := Aside0.mk (Kd.C_below HT3.out HQ4.out)
  have HB4 := Aside0.mk (Below.trans HB3.out (HQ4.out.mono HB3.out.size))
  have HR4 := Aside0.mk (Kd.C_below HRB.out HB4.out)
  clear hq4 hb4 HA4 HQ4 HX3 HS3 HT3 HB3 HRO
  go_wp2_with fail
  generalize (w4.alloc (.cells #[.slice A3 s.l.length c3, .bool s.e] 33)).alloc (.cells #[.slice none 0 0, .map none, .bool false] 27) = w5 at HX4 HY4 HZ4 HS4 HW4 HT4 HB4 HR4 ⊢
  generalize w4.heap.size + 1 = g3 at HZ4 ⊢
  generalize w4.heap.size = g2 at HY4 ⊢
  generalize w3.heap.size = g1 at HX4 ⊢
  have HSM := Aside0.mk (same_calls (HS4.out.below (below_drew (Below.refl w5.heap.size w5))) (HW4.out.below (below_drew (Below.refl w5.heap.size w5))) (by have := HFA.out.1; omega) (by have := HFA.out.2.1; omega) HFA.out.2.2.1 (fun p hp => Nat.le_trans (HFA.out.2.2.2 p hp) (by decide)))
  have HZM := Aside0.mk (fun W : World => same_calls (w := W) (setC_zero W) (refC_zero W) (Nat.zero_le _) (Nat.zero_le _) (fun p hp => absurd hp (by simp)) (fun p hp => absurd hp (by simp)))
  obtain ⟨q, hq⟩ : ∃ q : Bool, q = inP l0 b := ⟨_, rfl⟩
  have hqq : (q == q) = true := beq_self_eq_true q
  have HZH := Aside0.mk (show hasP ⟨[], false⟩ b = false by unfold hasP; split <;> rfl)
  have HQE := Aside0.mk hq
  clear hq
  have k10 := (blk_cell HX4.out 0).trans (show _ = some (Value.slice A2 s.l.length c2) from rfl)
  have k11 := (blk_cell HX4.out 1).trans (show _ = some (Value.map M2) from rfl)
  have k12 := (blk_cell HX4.out 2).trans (show _ = some (Value.bool s.e) from rfl)
  have k20 := (blk_cell HY4.out 0).trans (show _ = some (Value.slice A3 s.l.length c3) from rfl)
  have k21 := (blk_cell HY4.out 1).trans (show _ = some (Value.bool s.e) from rfl)
  have k30 := (blk_cell HZ4.out 0).trans (show _ = some (Value.slice none 0 0) from rfl)
  have k31 := (blk_cell HZ4.out 1).trans (show _ = some (Value.map none) from rfl)
  have k32 := (blk_cell HZ4.out 2).trans (show _ = some (Value.bool false) from rfl)
  have hrc := Kd.C_drew HR4.out
  refine wp_region_held_drew (S := fun w' => w'.cell? ⟨g1, 0, none⟩ = some (Value.slice A2 s.l.length c2) ∧ w'.cell? ⟨g1, 1, none⟩ = some (Value.map M2) ∧ w'.cell? ⟨g1, 2, none⟩ = some (Value.bool s.e) ∧ w'.cell? ⟨g2, 0, none⟩ = some (Value.slice A3 s.l.length c3) ∧ w'.cell? ⟨g2, 1, none⟩ = some (Value.bool s.e) ∧ w'.cell? ⟨g3, 0, none⟩ = some (Value.slice none 0 0) ∧ w'.cell? ⟨g3, 1, none⟩ = some (Value.map none) ∧ w'.cell? ⟨g3, 2, none⟩ = some (Value.bool false) ∧ Kd.C (Kd.int .u8) w' Ab b.length b) (by kernel_rfl) ⟨k10, k11, k12, k20, k21, k30, k31, k32, hrc⟩ (fun hHeld => ?_)
  refine wpAnyH_take (i := 0) (oi := { dst := some 31, op := Op.load 27 (Operand.tmp 8), type := 27, pos := "law.go:74", after := #[], guard := none }) (v := ?_) rfl (by kernel_rfl) (by kernel_rfl) (by kernel_rfl) (fun _ _ _ h => h) (Or.inl ⟨by rfl, ?_⟩) (by assumption) ?_
  rotate_left 1
  · intro w hSw
    (try dsimp only at hSw)
    go_simp
    all_goals try with_reducible rfl
  try simp only [Act.put, List.setIfInBounds_toArray, List.set_cons_zero, List.set_cons_succ]
  refine wpAnyH_take (i := 1) (oi := { dst := some 32, op := Op.load 33 (Operand.tmp 9), type := 33, pos := "law.go:74", after := #[], guard := none }) (v := ?_) rfl (by kernel_rfl) (by kernel_rfl) (by kernel_rfl) (fun _ _ _ h => h) (Or.inl ⟨by rfl, ?_⟩) (by assumption) ?_
  rotate_left 1
  · intro w hSw
    (try dsimp only at hSw)
    go_simp
    all_goals try with_reducible rfl
  try simp only [Act.put, List.setIfInBounds_toArray, List.set_cons_zero, List.set_cons_succ]
  refine wpAnyH_ready (rs := [2]) (by kernel_rfl) (by simp) ?_
  refine AllReadyH.cons (o := { dst := some 33, op := Op.call { callee := Callee.value (Operand.func 13), args := #[Operand.tmp 31, Operand.tmp 32], argTypes := #[27, 33] }, type := 4, pos := "law.go:74", after := #[{ on := 0, ground := Ground.data }, { on := 1, ground := Ground.data }], guard := none }) rfl (fun K hK => ?_) AllReadyH.nil
  clear hHeld
  go_simp
  refine (HSM.out).mono ?_
  rintro e u1 ⟨rfl, hb⟩
  have HU1 := Aside0.mk (show Below w5.heap.size w5 u1 from Below.trans ((below_drew (Below.refl w5.heap.size w5))) (hb.mono ((below_drew (Below.refl w5.heap.size w5))).size))
  clear hb
  clear k10 k11 k12 k20 k21 k30 k31 k32 hrc
  have k10 := (blk_cell (blk_below HX4.out HU1.out) 0).trans (show _ = some (Value.slice A2 s.l.length c2) from rfl)
  have k11 := (blk_cell (blk_below HX4.out HU1.out) 1).trans (show _ = some (Value.map M2) from rfl)
  have k12 := (blk_cell (blk_below HX4.out HU1.out) 2).trans (show _ = some (Value.bool s.e) from rfl)
  have k20 := (blk_cell (blk_below HY4.out HU1.out) 0).trans (show _ = some (Value.slice A3 s.l.length c3) from rfl)
  have k21 := (blk_cell (blk_below HY4.out HU1.out) 1).trans (show _ = some (Value.bool s.e) from rfl)
  have k30 := (blk_cell (blk_below HZ4.out HU1.out) 0).trans (show _ = some (Value.slice none 0 0) from rfl)
  have k31 := (blk_cell (blk_below HZ4.out HU1.out) 1).trans (show _ = some (Value.map none) from rfl)
  have k32 := (blk_cell (blk_below HZ4.out HU1.out) 2).trans (show _ = some (Value.bool false) from rfl)
  have hrc := Kd.C_below HR4.out HU1.out
  refine hK.out _ _ ⟨k10, k11, k12, k20, k21, k30, k31, k32, hrc⟩ (fun hHeld => ?_)
  clear hK K
  try simp only [Act.put, List.setIfInBounds_toArray, List.set_cons_zero, List.set_cons_succ]
  refine wpAnyH_take (i := 3) (oi := { dst := some 34, op := Op.move (Operand.tmp 33), type := 4, pos := "law.go:74", after := #[{ on := 2, ground := Ground.data }, { on := 2, ground := Ground.chain }], guard := none }) (v := ?_) rfl (by kernel_rfl) (by kernel_rfl) (by kernel_rfl) (fun _ _ _ h => h) (Or.inl ⟨by rfl, ?_⟩) (by assumption) ?_
  rotate_left 1
  · intro w hSw
    (try dsimp only at hSw)
    go_simp
    all_goals try with_reducible rfl
  try simp only [Act.put, List.setIfInBounds_toArray, List.set_cons_zero, List.set_cons_succ]
  refine wpAnyH_take (i := 4) (oi := { dst := some 35, op := Op.load 27 (Operand.tmp 8), type := 27, pos := "law.go:74", after := #[{ on := 3, ground := Ground.guard }], guard := some (3, true) }) (v := ?_) rfl (by kernel_rfl) (by kernel_rfl) (by kernel_rfl) (fun _ _ _ h => h) (Or.inl ⟨by go_simp, ?_⟩) (by assumption) ?_
  rotate_left 1
  · intro w hSw
    (try dsimp only at hSw)
    go_simp
    all_goals try with_reducible rfl
  try simp only [Act.put, List.setIfInBounds_toArray, List.set_cons_zero, List.set_cons_succ]
  refine wpAnyH_take (i := 5) (oi := { dst := some 36, op := Op.move (Operand.tmp 1), type := 22, pos := "law.go:74", after := #[{ on := 3, ground := Ground.guard }], guard := some (3, true) }) (v := ?_) rfl (by kernel_rfl) (by kernel_rfl) (by kernel_rfl) (fun _ _ _ h => h) (Or.inl ⟨by go_simp, ?_⟩) (by assumption) ?_
  rotate_left 1
  · intro w hSw
    (try dsimp only at hSw)
    go_simp
    all_goals try with_reducible rfl
  try simp only [Act.put, List.setIfInBounds_toArray, List.set_cons_zero, List.set_cons_succ]
  refine wpAnyH_take (i := 7) (oi := { dst := some 38, op := Op.move (Operand.tmp 6), type := 31, pos := "law.go:74", after := #[{ on := 3, ground := Ground.guard }], guard := some (3, true) }) (v := ?_) rfl (by kernel_rfl) (by kernel_rfl) (by kernel_rfl) (fun _ _ _ h => h) (Or.inl ⟨by go_simp, ?_⟩) (by assumption) ?_
  rotate_left 1
  · intro w hSw
    (try dsimp only at hSw)
    go_simp
    all_goals try with_reducible rfl
  try simp only [Act.put, List.setIfInBounds_toArray, List.set_cons_zero, List.set_cons_succ]
  refine wpAnyH_take (i := 8) (oi := { dst := some 39, op := Op.move (Operand.tmp 1), type := 22, pos := "law.go:74", after := #[{ on := 3, ground := Ground.guard }], guard := some (3, true) }) (v := ?_) rfl (by kernel_rfl) (by kernel_rfl) (by kernel_rfl) (fun _ _ _ h => h) (Or.inl ⟨by go_simp, ?_⟩) (by assumption) ?_
  rotate_left 1
  · intro w hSw
    (try dsimp only at hSw)
    go_simp
    all_goals try with_reducible rfl
  try simp only [Act.put, List.setIfInBounds_toArray, List.set_cons_zero, List.set_cons_succ]
  refine wpAnyH_take (i := 9) (oi := { dst := some 40, op := Op.convert 22 9 (Operand.tmp 39), type := 9, pos := "law.go:74", after := #[{ on := 8, ground := Ground.data }, { on := 3, ground := Ground.guard }], guard := some (3, true) }) (v := ?_) rfl (by kernel_rfl) (by kernel_rfl) (by kernel_rfl) (fun _ _ _ h => h) (Or.inl ⟨by go_simp, ?_⟩) (by assumption) ?_
  rotate_left 1
  · intro w hSw
    (try dsimp only at hSw)
    have sb := Kd.C_string (P := Try.prog) (A := Ab) (c := cb) Try.underlying22 Try.underlying5 Try.underlying9 hSw.2.2.2.2.2.2.2.2
    go_simp
    all_goals try with_reducible rfl
  try simp only [Act.put, List.setIfInBounds_toArray, List.set_cons_zero, List.set_cons_succ]
  refine wpAnyH_ready (rs := [6]) (by kernel_rfl) (by simp) ?_
  refine AllReadyH.cons (o := { dst := some 37, op := Op.call { callee := Callee.value (Operand.func 14), args := #[Operand.tmp 35, Operand.tmp 36], argTypes := #[27, 22] }, type := 4, pos := "law.go:74", after := #[{ on := 4, ground := Ground.data }, { on := 5, ground := Ground.data }, { on := 3, ground := Ground.chain }, { on := 3, ground := Ground.guard }], guard := some (3, true) }) rfl (fun K hK => ?_) AllReadyH.nil
  clear hHeld
  go_simp
  have HHC := Aside0.mk (has_calls (HS4.out.below HU1.out) b Ab b.length cb rfl (Kd.C_below HR4.out HU1.out) (by have := HLN.out; omega))
  rw [HHO.out, ← HQE.out] at HHC
  refine (HHC.out).mono ?_
  rintro e u2 ⟨rfl, hb⟩
  have HU2 := Aside0.mk (show Below w5.heap.size w5 u2 from Below.trans (HU1.out) (hb.mono (HU1.out).size))
  clear hb
  clear k10 k11 k12 k20 k21 k30 k31 k32 hrc
  have k10 := (blk_cell (blk_below HX4.out HU2.out) 0).trans (show _ = some (Value.slice A2 s.l.length c2) from rfl)
  have k11 := (blk_cell (blk_below HX4.out HU2.out) 1).trans (show _ = some (Value.map M2) from rfl)
  have k12 := (blk_cell (blk_below HX4.out HU2.out) 2).trans (show _ = some (Value.bool s.e) from rfl)
  have k20 := (blk_cell (blk_below HY4.out HU2.out) 0).trans (show _ = some (Value.slice A3 s.l.length c3) from rfl)
  have k21 := (blk_cell (blk_below HY4.out HU2.out) 1).trans (show _ = some (Value.bool s.e) from rfl)
  have k30 := (blk_cell (blk_below HZ4.out HU2.out) 0).trans (show _ = some (Value.slice none 0 0) from rfl)
  have k31 := (blk_cell (blk_below HZ4.out HU2.out) 1).trans (show _ = some (Value.map none) from rfl)
  have k32 := (blk_cell (blk_below HZ4.out HU2.out) 2).trans (show _ = some (Value.bool false) from rfl)
  have hrc := Kd.C_below HR4.out HU2.out
  refine hK.out _ _ ⟨k10, k11, k12, k20, k21, k30, k31, k32, hrc⟩ (fun hHeld => ?_)
  clear hK K
  try simp only [Act.put, List.setIfInBounds_toArray, List.set_cons_zero, List.set_cons_succ]
  refine wpAnyH_ready (rs := [10]) (by kernel_rfl) (by simp) ?_
  refine AllReadyH.cons (o := { dst := some 41, op := Op.call { callee := Callee.value (Operand.func 12), args := #[Operand.tmp 38, Operand.tmp 40], argTypes := #[31, 9] }, type := 4, pos := "law.go:74", after := #[{ on := 7, ground := Ground.data }, { on := 9, ground := Ground.data }, { on := 6, ground := Ground.chain }, { on := 3, ground := Ground.guard }], guard := some (3, true) }) rfl (fun K hK => ?_) AllReadyH.nil
  clear hHeld
  go_simp
  have HIN := Aside0.mk (refin_calls l0 b At ct u2 (Kd.C_below HT4.out HU2.out) HTC.out.1 (by have := HF0.out.1; omega))
  rw [← HQE.out] at HIN
  refine HIN.out.mono ?_
  rintro e u3 ⟨rfl, ⟨nd, rfl⟩⟩
  have HU3 := Aside0.mk (show Below w5.heap.size w5 (u2.drewN nd) from pw_below_drewN HU2.out nd)
  generalize u2.drewN nd = u3 at HU3 ⊢
  clear k10 k11 k12 k20 k21 k30 k31 k32 hrc
  have k10 := (blk_cell (blk_below HX4.out HU3.out) 0).trans (show _ = some (Value.slice A2 s.l.length c2) from rfl)
  have k11 := (blk_cell (blk_below HX4.out HU3.out) 1).trans (show _ = some (Value.map M2) from rfl)
  have k12 := (blk_cell (blk_below HX4.out HU3.out) 2).trans (show _ = some (Value.bool s.e) from rfl)
  have k20 := (blk_cell (blk_below HY4.out HU3.out) 0).trans (show _ = some (Value.slice A3 s.l.length c3) from rfl)
  have k21 := (blk_cell (blk_below HY4.out HU3.out) 1).trans (show _ = some (Value.bool s.e) from rfl)
  have k30 := (blk_cell (blk_below HZ4.out HU3.out) 0).trans (show _ = some (Value.slice none 0 0) from rfl)
  have k31 := (blk_cell (blk_below HZ4.out HU3.out) 1).trans (show _ = some (Value.map none) from rfl)
  have k32 := (blk_cell (blk_below HZ4.out HU3.out) 2).trans (show _ = some (Value.bool false) from rfl)
  have hrc := Kd.C_below HR4.out HU3.out
  refine hK.out _ _ ⟨k10, k11, k12, k20, k21, k30, k31, k32, hrc⟩ (fun hHeld => ?_)
  clear hK K
  try simp only [Act.put, List.setIfInBounds_toArray, List.set_cons_zero, List.set_cons_succ]
  refine wpAnyH_take (i := 11) (oi := { dst := some 42, op := Op.binOp BinOp.eql 4 (Operand.tmp 37) (Operand.tmp 41) 4, type := 4, pos := "law.go:74", after := #[{ on := 6, ground := Ground.data }, { on := 10, ground := Ground.data }, { on := 3, ground := Ground.guard }], guard := some (3, true) }) (v := ?_) rfl (by kernel_rfl) (by kernel_rfl) (by kernel_rfl) (fun _ _ _ h => h) (Or.inl ⟨by go_simp, ?_⟩) (by assumption) ?_
  rotate_left 1
  · intro w hSw
    (try dsimp only at hSw)
    go_simp
    all_goals try with_reducible rfl
  try simp only [Act.put, List.setIfInBounds_toArray, List.set_cons_zero, List.set_cons_succ]
  refine wpAnyH_take (i := 12) (oi := { dst := some 43, op := Op.pick (Operand.tmp 34) (Operand.tmp 42) (Operand.const (Value.bool false)), type := 4, pos := "law.go:74", after := #[{ on := 3, ground := Ground.data }, { on := 11, ground := Ground.data }], guard := none }) (v := ?_) rfl (by kernel_rfl) (by kernel_rfl) (by kernel_rfl) (fun _ _ _ h => h) (Or.inl ⟨by rfl, ?_⟩) (by assumption) ?_
  rotate_left 1
  · intro w hSw
    (try dsimp only at hSw)
    go_simp
    all_goals try with_reducible rfl
  try simp only [Act.put, List.setIfInBounds_toArray, List.set_cons_zero, List.set_cons_succ]
  refine wpAnyH_take (i := 13) (oi := { dst := some 44, op := Op.move (Operand.tmp 43), type := 4, pos := "law.go:74", after := #[{ on := 12, ground := Ground.data }, { on := 10, ground := Ground.chain }], guard := none }) (v := ?_) rfl (by kernel_rfl) (by kernel_rfl) (by kernel_rfl) (fun _ _ _ h => h) (Or.inl ⟨by rfl, ?_⟩) (by assumption) ?_
  rotate_left 1
  · intro w hSw
    (try dsimp only at hSw)
    go_simp
    all_goals try with_reducible rfl
  try simp only [Act.put, List.setIfInBounds_toArray, List.set_cons_zero, List.set_cons_succ]
  refine wpAnyH_take (i := 14) (oi := { dst := some 45, op := Op.load 27 (Operand.tmp 10), type := 27, pos := "law.go:74", after := #[{ on := 13, ground := Ground.guard }], guard := some (13, true) }) (v := ?_) rfl (by kernel_rfl) (by kernel_rfl) (by kernel_rfl) (fun _ _ _ h => h) (Or.inl ⟨by go_simp, ?_⟩) (by assumption) ?_
  rotate_left 1
  · intro w hSw
    (try dsimp only at hSw)
    go_simp
    all_goals try with_reducible rfl
  try simp only [Act.put, List.setIfInBounds_toArray, List.set_cons_zero, List.set_cons_succ]
  refine wpAnyH_take (i := 15) (oi := { dst := some 46, op := Op.build 33 #[], type := 33, pos := "law.go:74", after := #[{ on := 13, ground := Ground.guard }], guard := some (13, true) }) (v := ?_) rfl (by kernel_rfl) (by kernel_rfl) (by kernel_rfl) (fun _ _ _ h => h) (Or.inl ⟨by go_simp, ?_⟩) (by assumption) ?_
  rotate_left 1
  · intro w hSw
    (try dsimp only at hSw)
    go_simp
    all_goals try with_reducible rfl
  try simp only [Act.put, List.setIfInBounds_toArray, List.set_cons_zero, List.set_cons_succ]
  refine wpAnyH_ready (rs := [16]) (by kernel_rfl) (by simp) ?_
  refine AllReadyH.cons (o := { dst := some 47, op := Op.call { callee := Callee.value (Operand.func 13), args := #[Operand.tmp 45, Operand.tmp 46], argTypes := #[27, 33] }, type := 4, pos := "law.go:74", after := #[{ on := 14, ground := Ground.data }, { on := 15, ground := Ground.data }, { on := 13, ground := Ground.chain }, { on := 13, ground := Ground.guard }], guard := some (13, true) }) rfl (fun K hK => ?_) AllReadyH.nil
  clear hHeld
  go_simp
  refine ((HZM.out u3)).mono ?_
  rintro e u4 ⟨rfl, hb⟩
  have HU4 := Aside0.mk (show Below w5.heap.size w5 u4 from Below.trans (HU3.out) (hb.mono (HU3.out).size))
  clear hb
  clear k10 k11 k12 k20 k21 k30 k31 k32 hrc
  have k10 := (blk_cell (blk_below HX4.out HU4.out) 0).trans (show _ = some (Value.slice A2 s.l.length c2) from rfl)
  have k11 := (blk_cell (blk_below HX4.out HU4.out) 1).trans (show _ = some (Value.map M2) from rfl)
  have k12 := (blk_cell (blk_below HX4.out HU4.out) 2).trans (show _ = some (Value.bool s.e) from rfl)
  have k20 := (blk_cell (blk_below HY4.out HU4.out) 0).trans (show _ = some (Value.slice A3 s.l.length c3) from rfl)
  have k21 := (blk_cell (blk_below HY4.out HU4.out) 1).trans (show _ = some (Value.bool s.e) from rfl)
  have k30 := (blk_cell (blk_below HZ4.out HU4.out) 0).trans (show _ = some (Value.slice none 0 0) from rfl)
  have k31 := (blk_cell (blk_below HZ4.out HU4.out) 1).trans (show _ = some (Value.map none) from rfl)
  have k32 := (blk_cell (blk_below HZ4.out HU4.out) 2).trans (show _ = some (Value.bool false) from rfl)
  have hrc := Kd.C_below HR4.out HU4.out
  refine hK.out _ _ ⟨k10, k11, k12, k20, k21, k30, k31, k32, hrc⟩ (fun hHeld => ?_)
  clear hK K
  try simp only [Act.put, List.setIfInBounds_toArray, List.set_cons_zero, List.set_cons_succ]
  refine wpAnyH_take (i := 17) (oi := { dst := some 48, op := Op.pick (Operand.tmp 44) (Operand.tmp 47) (Operand.const (Value.bool false)), type := 4, pos := "law.go:74", after := #[{ on := 13, ground := Ground.data }, { on := 16, ground := Ground.data }], guard := none }) (v := ?_) rfl (by kernel_rfl) (by kernel_rfl) (by kernel_rfl) (fun _ _ _ h => h) (Or.inl ⟨by rfl, ?_⟩) (by assumption) ?_
  rotate_left 1
  · intro w hSw
    (try dsimp only at hSw)
    go_simp
    all_goals try with_reducible rfl
  try simp only [Act.put, List.setIfInBounds_toArray, List.set_cons_zero, List.set_cons_succ]
  refine wpAnyH_take (i := 18) (oi := { dst := some 49, op := Op.move (Operand.tmp 48), type := 4, pos := "law.go:74", after := #[{ on := 17, ground := Ground.data }, { on := 16, ground := Ground.chain }], guard := none }) (v := ?_) rfl (by kernel_rfl) (by kernel_rfl) (by kernel_rfl) (fun _ _ _ h => h) (Or.inl ⟨by rfl, ?_⟩) (by assumption) ?_
  rotate_left 1
  · intro w hSw
    (try dsimp only at hSw)
    go_simp
    all_goals try with_reducible rfl
  try simp only [Act.put, List.setIfInBounds_toArray, List.set_cons_zero, List.set_cons_succ]
  refine wpAnyH_take (i := 19) (oi := { dst := some 50, op := Op.load 27 (Operand.tmp 10), type := 27, pos := "law.go:74", after := #[{ on := 18, ground := Ground.guard }], guard := some (18, true) }) (v := ?_) rfl (by kernel_rfl) (by kernel_rfl) (by kernel_rfl) (fun _ _ _ h => h) (Or.inl ⟨by go_simp, ?_⟩) (by assumption) ?_
  rotate_left 1
  · intro w hSw
    (try dsimp only at hSw)
    go_simp
    all_goals try with_reducible rfl
  try simp only [Act.put, List.setIfInBounds_toArray, List.set_cons_zero, List.set_cons_succ]
  refine wpAnyH_take (i := 20) (oi := { dst := some 51, op := Op.move (Operand.tmp 1), type := 22, pos := "law.go:74", after := #[{ on := 18, ground := Ground.guard }], guard := some (18, true) }) (v := ?_) rfl (by kernel_rfl) (by kernel_rfl) (by kernel_rfl) (fun _ _ _ h => h) (Or.inl ⟨by go_simp, ?_⟩) (by assumption) ?_
  rotate_left 1
  · intro w hSw
    (try dsimp only at hSw)
    go_simp
    all_goals try with_reducible rfl
  try simp only [Act.put, List.setIfInBounds_toArray, List.set_cons_zero, List.set_cons_succ]
  refine wpAnyH_ready (rs := [21]) (by kernel_rfl) (by simp) ?_
  refine AllReadyH.cons (o := { dst := some 52, op := Op.call { callee := Callee.value (Operand.func 14), args := #[Operand.tmp 50, Operand.tmp 51], argTypes := #[27, 22] }, type := 4, pos := "law.go:74", after := #[{ on := 19, ground := Ground.data }, { on := 20, ground := Ground.data }, { on := 18, ground := Ground.chain }, { on := 18, ground := Ground.guard }], guard := some (18, true) }) rfl (fun K hK => ?_) AllReadyH.nil
  clear hHeld
  go_simp
  have HHD := Aside0.mk (has_calls (setC_zero u4) b Ab b.length cb rfl (Kd.C_below HR4.out HU4.out) (by have := HLN.out; omega))
  rw [HZH.out] at HHD
  refine (HHD.out).mono ?_
  rintro e u5 ⟨rfl, hb⟩
  have HU5 := Aside0.mk (show Below w5.heap.size w5 u5 from Below.trans (HU4.out) (hb.mono (HU4.out).size))
  clear hb
  clear k10 k11 k12 k20 k21 k30 k31 k32 hrc
  have k10 := (blk_cell (blk_below HX4.out HU5.out) 0).trans (show _ = some (Value.slice A2 s.l.length c2) from rfl)
  have k11 := (blk_cell (blk_below HX4.out HU5.out) 1).trans (show _ = some (Value.map M2) from rfl)
  have k12 := (blk_cell (blk_below HX4.out HU5.out) 2).trans (show _ = some (Value.bool s.e) from rfl)
  have k20 := (blk_cell (blk_below HY4.out HU5.out) 0).trans (show _ = some (Value.slice A3 s.l.length c3) from rfl)
  have k21 := (blk_cell (blk_below HY4.out HU5.out) 1).trans (show _ = some (Value.bool s.e) from rfl)
  have k30 := (blk_cell (blk_below HZ4.out HU5.out) 0).trans (show _ = some (Value.slice none 0 0) from rfl)
  have k31 := (blk_cell (blk_below HZ4.out HU5.out) 1).trans (show _ = some (Value.map none) from rfl)
  have k32 := (blk_cell (blk_below HZ4.out HU5.out) 2).trans (show _ = some (Value.bool false) from rfl)
  have hrc := Kd.C_below HR4.out HU5.out
  refine hK.out _ _ ⟨k10, k11, k12, k20, k21, k30, k31, k32, hrc⟩ (fun hHeld => ?_)
  clear hK K
  try simp only [Act.put, List.setIfInBounds_toArray, List.set_cons_zero, List.set_cons_succ]
  refine wpAnyH_take (i := 22) (oi := { dst := some 53, op := Op.unOp UnOp.not 4 (Operand.tmp 52), type := 4, pos := "law.go:74", after := #[{ on := 21, ground := Ground.data }, { on := 18, ground := Ground.guard }], guard := some (18, true) }) (v := ?_) rfl (by kernel_rfl) (by kernel_rfl) (by kernel_rfl) (fun _ _ _ h => h) (Or.inl ⟨by go_simp, ?_⟩) (by assumption) ?_
  rotate_left 1
  · intro w hSw
    (try dsimp only at hSw)
    go_simp
    all_goals try with_reducible rfl
  try simp only [Act.put, List.setIfInBounds_toArray, List.set_cons_zero, List.set_cons_succ]
  refine wpAnyH_take (i := 23) (oi := { dst := some 54, op := Op.pick (Operand.tmp 49) (Operand.tmp 53) (Operand.const (Value.bool false)), type := 4, pos := "law.go:74", after := #[{ on := 18, ground := Ground.data }, { on := 22, ground := Ground.data }], guard := none }) (v := ?_) rfl (by kernel_rfl) (by kernel_rfl) (by kernel_rfl) (fun _ _ _ h => h) (Or.inl ⟨by rfl, ?_⟩) (by assumption) ?_
  rotate_left 1
  · intro w hSw
    (try dsimp only at hSw)
    go_simp
    all_goals try with_reducible rfl
  try simp only [Act.put, List.setIfInBounds_toArray, List.set_cons_zero, List.set_cons_succ]
  refine wpAnyH_take (i := 24) (oi := { dst := some 4, op := Op.assign (Operand.tmp 54), type := 4, pos := "law.go:74", after := #[{ on := 23, ground := Ground.data }, { on := 21, ground := Ground.chain }, { on := 0, ground := Ground.phase }, { on := 1, ground := Ground.phase }, { on := 2, ground := Ground.phase }, { on := 3, ground := Ground.phase }, { on := 4, ground := Ground.phase }, { on := 5, ground := Ground.phase }, { on := 6, ground := Ground.phase }, { on := 7, ground := Ground.phase }, { on := 8, ground := Ground.phase }, { on := 9, ground := Ground.phase }, { on := 10, ground := Ground.phase }, { on := 11, ground := Ground.phase }, { on := 12, ground := Ground.phase }, { on := 13, ground := Ground.phase }, { on := 14, ground := Ground.phase }, { on := 15, ground := Ground.phase }, { on := 16, ground := Ground.phase }, { on := 17, ground := Ground.phase }, { on := 18, ground := Ground.phase }, { on := 19, ground := Ground.phase }, { on := 20, ground := Ground.phase }, { on := 21, ground := Ground.phase }, { on := 22, ground := Ground.phase }, { on := 23, ground := Ground.phase }], guard := none }) (v := ?_) rfl (by kernel_rfl) (by kernel_rfl) (by kernel_rfl) (fun _ _ _ h => h) (Or.inl ⟨by rfl, ?_⟩) (by assumption) ?_
  rotate_left 1
  · intro w hSw
    (try dsimp only at hSw)
    go_simp
    all_goals try with_reducible rfl
  try simp only [Act.put, List.setIfInBounds_toArray, List.set_cons_zero, List.set_cons_succ]
  refine wpAnyH_done (by kernel_rfl) ?_ _
  go_wp2
  go_ret
  exact ⟨rfl, Below.trans HB4.out (HU5.out.mono HB4.out.size)⟩
end Go.Proofs.Ytkpfnhkfecpefaa.Pat
