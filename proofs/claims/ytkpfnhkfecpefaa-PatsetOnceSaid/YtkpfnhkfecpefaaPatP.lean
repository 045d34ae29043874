/- PatsetFolds: a file without case is the file of its bytes without case. -/
import Derived.Test.YtkpfnhkfecpefaaPatS
namespace Go.Proofs.Ytkpfnhkfecpefaa.Pat
open Go Go.RowKit Go.Proofs Go.Proofs.YtkpfnhkfecpefaaW.PrintWords Go.Proofs.YtkpfnhkfecpefaaW.PrintMore Go.Proofs.YtkpfnhkfecpefaaW.PrintLast Go.Proofs.Ytkpfnhkfecpefaa.Ref Go.Proofs.Ytkpfnhkfecpefaa.Aid Go.Proofs.Ytkpfnhkfecpefaa.Lin
set_option linter.unusedVariables false
set_option linter.unusedSimpArgs false
attribute [local go_sem] max2_int min2_int max_two min_two max_three min_three
theorem bytesOf_str : ∀ (m : List Int), Byt m → bytesOf (strOfNums m) = m
  | m, h => by
    unfold bytesOf strOfNums
    show (m.map fun n => UInt8.ofNat n.toNat).map _ = m
    rw [List.map_map]
    conv => rhs; rw [← List.map_id m]
    refine List.map_congr_left (fun x hx => ?_)
    have := h x hx
    simp
    omega
theorem conv_C (W : World) (m : List Int) (hb : Byt m) (hl : m.length ≤ 2000) : Kd.C (Kd.int .u8) (Lib.bytesWorld W 5 (strOfNums m)) (some ⟨W.heap.size, 0, none⟩) m.length m := by
  have h := bytes_reads W 5 (strOfNums m) (by rw [strOfNums_size]; omega)
  rw [strOfNums_size, bytesOf_str m hb] at h
  exact Kd.C_of_reads (d := (0 : Int)) (readsInt_of.mp h)
theorem of_mem : ∀ (L : List (List Int)) (s : PS), ∀ p ∈ (L.foldl addP s).l, p ∈ s.l ∨ p ∈ L
  | [], s, p, h => Or.inl h
  | b :: L, s, p, h => by
    rcases of_mem L (addP s b) p h with h | h
    · unfold addP at h
      split at h
      · exact Or.inl h
      · split at h
        · exact Or.inl h
        · rcases List.mem_append.mp h with h | h
          · exact Or.inl h
          · rw [List.mem_singleton] at h
            subst h
            exact Or.inr List.mem_cons_self
    · exact Or.inr (List.mem_cons_of_mem _ h)
theorem byteI_twice (c : Int) : byteI (byteI c) = byteI c := by
  unfold byteI upB
  by_cases h : 65 ≤ c ∧ c ≤ 90
  · simp [h.1, h.2]
    omega
  · have : (decide (65 ≤ c) && decide (c ≤ 90)) = false := by simp; omega
    rw [this]
    simp [this]
theorem load_folded (l : List Int) (hb : Byt l) (hl : l.length ≤ 1024) : loadP (l.map byteI) false = loadP l true ∧ ∀ p ∈ (loadP l true).l, p.map byteI = p ∧ Byt p := by
  have e1 : loadP l true = ofP (linesT (l.map byteI)) := if_neg (by omega)
  have e2 : loadP (l.map byteI) false = ofP (linesT (l.map byteI)) := if_neg (by rw [List.length_map]; omega)
  refine ⟨e2.trans e1.symm, fun p hp => ?_⟩
  rw [e1] at hp
  have hm : p ∈ linesT (l.map byteI) := (of_mem _ _ p hp).resolve_left (fun h => by cases h)
  have h2 := lines_fold true l
  have h3 : foldT true l = l.map byteI := rfl
  rw [h3] at h2
  rw [h2] at hm
  obtain ⟨q, hq, he⟩ := List.mem_map.mp hm
  have h4 : foldT true q = q.map byteI := rfl
  rw [h4] at he
  subst he
  unfold linesT at hq
  obtain ⟨y, hy, rfl⟩ := List.mem_map.mp hq
  have hby := byt_up l 0 [] hb (fun x hx => by cases hx) y hy
  refine ⟨?_, fun x hx => ?_⟩
  · rw [List.map_map]
    refine List.map_congr_left (fun x _ => byteI_twice x)
  · obtain ⟨z, hz, rfl⟩ := List.mem_map.mp hx
    exact byteI_byt z (hby z hz).1 (hby z hz).2
theorem byt_fold (l : List Int) (hb : Byt l) : Byt (l.map byteI) := fun x hx => by
  obtain ⟨z, hz, rfl⟩ := List.mem_map.mp hx
  exact byteI_byt z (hb z hz).1 (hb z hz).2
set_option maxHeartbeats 16000000 in
set_option maxRecDepth 100000 in
theorem folds_calls (A0 : Option Addr) (c0 : Nat) (l0 : List Int) (hby : Byt l0) (w : World) (hr0 : Kd.C (Kd.int .u8) w A0 l0.length l0) (hc0 : l0.length ≤ c0) :
    Calls Try.prog 6 #[.slice A0 l0.length c0] w fun e w' => e = .returned (.bool true) ∧ Below w.heap.size w w' := by
  have HR0 := Aside0.mk hr0
  have HC0 := Aside0.mk hc0
  have HBY := Aside0.mk hby
  have hu := Try.underlying27
  clear hr0 hc0 hby
  go_enter Try.func6, Try.ntmps6
  go_wp2_with fail
  refine (awake_calls _).mono ?_
  rintro e w1 ⟨rfl, hb1⟩
  have HB1 := Aside0.mk hb1
  clear hb1
  by_cases hlen : 1024 < l0.length
  · have d1 : decide ((l0.length : Int) > 1024) = true := decide_eq_true (by omega)
    have d2 : decide ((1024 : Int) < (l0.length : Int)) = true := decide_eq_true (by omega)
    have d3 : decide (1024 < l0.length) = true := decide_eq_true hlen
    clear hlen
    go_wp2
    go_ret
    exact ⟨rfl, HB1.out⟩
  have d1 : decide ((l0.length : Int) > 1024) = false := decide_eq_false (by omega)
  have d2 : decide ((1024 : Int) < (l0.length : Int)) = false := decide_eq_false (by omega)
  have d3 : decide (1024 < l0.length) = false := decide_eq_false hlen
  have HLE := Aside0.mk (show l0.length ≤ 1024 by omega)
  clear hlen
  have hz1 : loadE l0 = 0 := if_neg (by have := HLE.out; omega)
  have hz2 : loadE (l0.map byteI) = 0 := if_neg (by rw [List.length_map]; have := HLE.out; omega)
  obtain ⟨f1, f2, f3, f4⟩ := load_facts l0 true
  have HF := Aside0.mk (And.intro f1 (And.intro f2 (And.intro f3 f4)))
  obtain ⟨hlf1, hlf2⟩ := load_folded l0 HBY.out HLE.out
  have HLF := Aside0.mk hlf2
  have HLC := Aside0.mk (show Calls Try.prog 10 #[.slice A0 l0.length c0, .bool true] w1 fun e w' => ∃ v, e = .returned (.tuple #[v, .int .i64 0]) ∧ SetC w' v (loadP l0 true) ∧ Below w1.heap.size w1 w' by
    rw [← hz1]; exact load_calls w1 A0 c0 l0.length l0 true rfl (Kd.C_below HR0.out HB1.out) HC0.out)
  have HLD := Aside0.mk (fun (W : World) (A : Option Addr) (c : Nat) (hC : Kd.C (Kd.int .u8) W A (l0.map byteI).length (l0.map byteI)) (hc : (l0.map byteI).length ≤ c) => show Calls Try.prog 10 #[.slice A l0.length c, .bool false] W fun e w' => ∃ v, e = .returned (.tuple #[v, .int .i64 0]) ∧ SetC w' v (loadP l0 true) ∧ Below W.heap.size W w' by
    rw [← hlf1, ← hz2]; exact load_calls W A c _ (l0.map byteI) false (List.length_map _).symm hC hc)
  generalize loadP l0 true = s at HF HLF HLC HLD
  clear f1 f2 f3 f4 hlf1 hlf2 hz1 hz2
  go_wp2_with fail
  refine HLC.out.mono ?_
  rintro e w2 ⟨v2, rfl, hs2, hb2⟩
  obtain ⟨A2, c2, M2, rfl, _, _, _, _⟩ := hs2.lies
  have HA2 := Aside0.mk (below_alloc (Below.refl w2.heap.size w2) (.cells #[.slice A2 s.l.length c2, .map M2, .bool s.e] 27))
  have HX2 := Aside0.mk (blk_new w2 (.cells #[.slice A2 s.l.length c2, .map M2, .bool s.e] 27))
  have HS2 := Aside0.mk (hs2.below HA2.out)
  have HB2 := Aside0.mk (Below.trans HB1.out ((Below.trans hb2 (HA2.out.mono hb2.size)).mono HB1.out.size))
  have sf := Kd.C_string (P := Try.prog) (A := A0) (c := c0) Try.underlying22 Try.underlying5 Try.underlying9 (Kd.C_below HR0.out HB2.out)
  clear hs2 hb2 HA2 HLC
  go_wp2_with fail
  refine (refbytes_calls l0 (by have := HLE.out; omega) HBY.out _).mono ?_
  rintro e w3 ⟨rfl, hb3⟩
  have HX3 := Aside0.mk (blk_below HX2.out hb3)
  have HS3 := Aside0.mk (HS2.out.below hb3)
  have HB3 := Aside0.mk (Below.trans HB2.out (hb3.mono HB2.out.size))
  have kb := print_bytes (P := Try.prog) 9 22 5 Try.underlying9 Try.underlying22 Try.underlying5 (strOfNums (l0.map byteI)) w3
  have hsz : (strOfNums (l0.map byteI)).size = l0.length := by rw [strOfNums_size, List.length_map]
  have HCC := Aside0.mk (conv_C w3 (l0.map byteI) (byt_fold l0 HBY.out) (by rw [List.length_map]; have := HLE.out; omega))
  have HCB := Aside0.mk (show (l0.map byteI).length ≤ grownCap w3 l0.length 0 5 by rw [List.length_map]; exact grownCap_ge w3 l0.length 0 5)
  have HBW := Aside0.mk (bytes_below (Below.refl w3.heap.size w3) (Nat.le_refl _) 5 (strOfNums (l0.map byteI)))
  rw [hsz] at kb
  clear hb3 HX2 HS2 HB2 sf hsz
  generalize strOfNums (l0.map byteI) = fs at kb HCC HBW ⊢
  go_wp2_with fail
  refine (HLD.out _ _ _ HCC.out HCB.out).mono ?_
  rintro e w4 ⟨v4, rfl, hs4, hb4⟩
  obtain ⟨A3, c3, M3, rfl, _, _, _, _⟩ := hs4.lies
  have HA4 := Aside0.mk (below_alloc (Below.refl w4.heap.size w4) (.cells #[.slice A3 s.l.length c3, .map M3, .bool s.e] 27))
  have HQ4 := Aside0.mk (Below.trans HBW.out ((Below.trans hb4 (HA4.out.mono hb4.size)).mono HBW.out.size))
  have HX4 := Aside0.mk (blk_below HX3.out HQ4.out)
  have HY4 := Aside0.mk (blk_new w4 (.cells #[.slice A3 s.l.length c3, .map M3, .bool s.e] 27))
  have HS4 := Aside0.mk (HS3.out.below HQ4.out)
  have HT4 := Aside0.mk (hs4.below HA4.out)
  have HB4 := Aside0.mk (Below.trans HB3.out (HQ4.out.mono HB3.out.size))
  clear hs4 hb4 HA4 HQ4 HX3 HS3 HB3 kb HCC HCB HBW HLD
  have k10 := (blk_cell HX4.out 0).trans (show _ = some (Value.slice A2 s.l.length c2) from rfl)
  have k11 := (blk_cell HX4.out 1).trans (show _ = some (Value.map M2) from rfl)
  have k12 := (blk_cell HX4.out 2).trans (show _ = some (Value.bool s.e) from rfl)
  go_wp2_with fail
  clear k10 k11 k12
  generalize w4.alloc (.cells #[.slice A3 s.l.length c3, .map M3, .bool s.e] 27) = w5 at HX4 HY4 HS4 HT4 HB4 ⊢
  generalize w4.heap.size = g2 at HY4 ⊢
  generalize w2.heap.size = g1 at HX4 ⊢
  refine (patterns_calls HS4.out (by have := HF.out.1; omega) (fun p hp => Nat.le_trans (HF.out.2.2.2 p hp) (by decide))).mono ?_
  rintro e w8 ⟨v8, rfl, hr8, hb8⟩
  obtain ⟨A8, c8, hv8⟩ := Kd.R_slice hr8
  subst hv8
  have HP8 := Aside0.mk (Kd.R_reads' hr8)
  have HX8 := Aside0.mk (blk_below HX4.out hb8)
  have HY8 := Aside0.mk (blk_below HY4.out hb8)
  have HS8 := Aside0.mk (HS4.out.below hb8)
  have HT8 := Aside0.mk (HT4.out.below hb8)
  have HB8 := Aside0.mk (Below.trans HB4.out (hb8.mono HB4.out.size))
  clear hr8 hb8 HX4 HY4 HS4 HT4 HB4
  have k20 := (blk_cell HY8.out 0).trans (show _ = some (Value.slice A3 s.l.length c3) from rfl)
  have k21 := (blk_cell HY8.out 1).trans (show _ = some (Value.map M3) from rfl)
  have k22 := (blk_cell HY8.out 2).trans (show _ = some (Value.bool s.e) from rfl)
  go_wp2_with fail
  clear k20 k21 k22
  refine (patterns_calls HT8.out (by have := HF.out.1; omega) (fun p hp => Nat.le_trans (HF.out.2.2.2 p hp) (by decide))).mono ?_
  rintro e w9 ⟨v9, rfl, hr9, hb9⟩
  obtain ⟨A9, c9, hv9⟩ := Kd.R_slice hr9
  subst hv9
  have HP9 := Aside0.mk (Kd.R_reads' hr9)
  have HQ9 := Aside0.mk (Kd.C_below HP8.out.2.2 hb9)
  have HX9 := Aside0.mk (blk_below HX8.out hb9)
  have HY9 := Aside0.mk (blk_below HY8.out hb9)
  have HS9 := Aside0.mk (HS8.out.below hb9)
  have HT9 := Aside0.mk (HT8.out.below hb9)
  have HB9 := Aside0.mk (Below.trans HB8.out (hb9.mono HB8.out.size))
  clear hr9 hb9 HX8 HY8 HS8 HT8 HB8
  have hse : (s.e != s.e) = false := bne_self_eq_false s.e
  have k10 := (blk_cell HX9.out 0).trans (show _ = some (Value.slice A2 s.l.length c2) from rfl)
  have k11 := (blk_cell HX9.out 1).trans (show _ = some (Value.map M2) from rfl)
  have k12 := (blk_cell HX9.out 2).trans (show _ = some (Value.bool s.e) from rfl)
  have k20 := (blk_cell HY9.out 0).trans (show _ = some (Value.slice A3 s.l.length c3) from rfl)
  have k21 := (blk_cell HY9.out 1).trans (show _ = some (Value.map M3) from rfl)
  have k22 := (blk_cell HY9.out 2).trans (show _ = some (Value.bool s.e) from rfl)
  go_wp2_with fail
  refine wp_region_held_drew (S := fun w' => w'.cell? ⟨g1, 0, none⟩ = some (Value.slice A2 s.l.length c2) ∧ w'.cell? ⟨g1, 1, none⟩ = some (Value.map M2) ∧ w'.cell? ⟨g1, 2, none⟩ = some (Value.bool s.e) ∧ w'.cell? ⟨g2, 0, none⟩ = some (Value.slice A3 s.l.length c3) ∧ w'.cell? ⟨g2, 1, none⟩ = some (Value.map M3) ∧ w'.cell? ⟨g2, 2, none⟩ = some (Value.bool s.e)) (by kernel_rfl) ⟨k10, k11, k12, k20, k21, k22⟩ (fun hHeld => ?_)
  refine wpAnyH_take (i := 0) (oi := { dst := some 34, op := Op.move (Operand.tmp 5), type := 28, pos := "law.go:124", after := #[], guard := none }) (v := ?_) rfl (by kernel_rfl) (by kernel_rfl) (by kernel_rfl) (fun _ _ _ h => h) (Or.inl ⟨by rfl, ?_⟩) (by assumption) ?_
  rotate_left 1
  · intro w hSw
    (try dsimp only at hSw)
    go_simp
    all_goals try with_reducible rfl
  try simp only [Act.put, List.setIfInBounds_toArray, List.set_cons_zero, List.set_cons_succ]
  refine wpAnyH_take (i := 1) (oi := { dst := some 35, op := Op.binOp BinOp.neq 28 (Operand.tmp 34) (Operand.const (Value.int IntKind.i64 0)) 28, type := 4, pos := "law.go:124", after := #[{ on := 0, ground := Ground.data }], guard := none }) (v := ?_) rfl (by kernel_rfl) (by kernel_rfl) (by kernel_rfl) (fun _ _ _ h => h) (Or.inl ⟨by rfl, ?_⟩) (by assumption) ?_
  rotate_left 1
  · intro w hSw
    (try dsimp only at hSw)
    go_simp
    all_goals try with_reducible rfl
  try simp only [Act.put, List.setIfInBounds_toArray, List.set_cons_zero, List.set_cons_succ]
  refine wpAnyH_take (i := 2) (oi := { dst := some 36, op := Op.move (Operand.tmp 35), type := 4, pos := "law.go:124", after := #[{ on := 1, ground := Ground.data }], guard := none }) (v := ?_) rfl (by kernel_rfl) (by kernel_rfl) (by kernel_rfl) (fun _ _ _ h => h) (Or.inl ⟨by rfl, ?_⟩) (by assumption) ?_
  rotate_left 1
  · intro w hSw
    (try dsimp only at hSw)
    go_simp
    all_goals try with_reducible rfl
  try simp only [Act.put, List.setIfInBounds_toArray, List.set_cons_zero, List.set_cons_succ]
  refine wpAnyH_take (i := 3) (oi := { dst := some 37, op := Op.move (Operand.tmp 7), type := 28, pos := "law.go:124", after := #[{ on := 2, ground := Ground.guard }], guard := some (2, false) }) (v := ?_) rfl (by kernel_rfl) (by kernel_rfl) (by kernel_rfl) (fun _ _ _ h => h) (Or.inl ⟨by go_simp, ?_⟩) (by assumption) ?_
  rotate_left 1
  · intro w hSw
    (try dsimp only at hSw)
    go_simp
    all_goals try with_reducible rfl
  try simp only [Act.put, List.setIfInBounds_toArray, List.set_cons_zero, List.set_cons_succ]
  refine wpAnyH_take (i := 4) (oi := { dst := some 38, op := Op.binOp BinOp.neq 28 (Operand.tmp 37) (Operand.const (Value.int IntKind.i64 0)) 28, type := 4, pos := "law.go:124", after := #[{ on := 3, ground := Ground.data }, { on := 2, ground := Ground.guard }], guard := some (2, false) }) (v := ?_) rfl (by kernel_rfl) (by kernel_rfl) (by kernel_rfl) (fun _ _ _ h => h) (Or.inl ⟨by go_simp, ?_⟩) (by assumption) ?_
  rotate_left 1
  · intro w hSw
    (try dsimp only at hSw)
    go_simp
    all_goals try with_reducible rfl
  try simp only [Act.put, List.setIfInBounds_toArray, List.set_cons_zero, List.set_cons_succ]
  refine wpAnyH_take (i := 5) (oi := { dst := some 39, op := Op.pick (Operand.tmp 36) (Operand.const (Value.bool true)) (Operand.tmp 38), type := 4, pos := "law.go:124", after := #[{ on := 2, ground := Ground.data }, { on := 4, ground := Ground.data }], guard := none }) (v := ?_) rfl (by kernel_rfl) (by kernel_rfl) (by kernel_rfl) (fun _ _ _ h => h) (Or.inl ⟨by rfl, ?_⟩) (by assumption) ?_
  rotate_left 1
  · intro w hSw
    (try dsimp only at hSw)
    go_simp
    all_goals try with_reducible rfl
  try simp only [Act.put, List.setIfInBounds_toArray, List.set_cons_zero, List.set_cons_succ]
  refine wpAnyH_take (i := 6) (oi := { dst := some 40, op := Op.move (Operand.tmp 39), type := 4, pos := "law.go:124", after := #[{ on := 5, ground := Ground.data }, { on := 2, ground := Ground.chain }], guard := none }) (v := ?_) rfl (by kernel_rfl) (by kernel_rfl) (by kernel_rfl) (fun _ _ _ h => h) (Or.inl ⟨by rfl, ?_⟩) (by assumption) ?_
  rotate_left 1
  · intro w hSw
    (try dsimp only at hSw)
    go_simp
    all_goals try with_reducible rfl
  try simp only [Act.put, List.setIfInBounds_toArray, List.set_cons_zero, List.set_cons_succ]
  refine wpAnyH_take (i := 7) (oi := { dst := some 41, op := Op.move (Operand.tmp 8), type := 24, pos := "law.go:124", after := #[{ on := 6, ground := Ground.guard }], guard := some (6, false) }) (v := ?_) rfl (by kernel_rfl) (by kernel_rfl) (by kernel_rfl) (fun _ _ _ h => h) (Or.inl ⟨by go_simp, ?_⟩) (by assumption) ?_
  rotate_left 1
  · intro w hSw
    (try dsimp only at hSw)
    go_simp
    all_goals try with_reducible rfl
  try simp only [Act.put, List.setIfInBounds_toArray, List.set_cons_zero, List.set_cons_succ]
  refine wpAnyH_take (i := 8) (oi := { dst := some 42, op := Op.call { callee := Callee.builtin Builtin.len, args := #[Operand.tmp 41], argTypes := #[24] }, type := 3, pos := "law.go:124", after := #[{ on := 7, ground := Ground.data }, { on := 6, ground := Ground.guard }], guard := some (6, false) }) (v := ?_) rfl (by kernel_rfl) (by kernel_rfl) (by kernel_rfl) (fun _ _ _ h => h) (Or.inl ⟨by go_simp, ?_⟩) (by assumption) ?_
  rotate_left 1
  · intro w hSw
    (try dsimp only at hSw)
    go_simp
    all_goals try with_reducible rfl
  try simp only [Act.put, List.setIfInBounds_toArray, List.set_cons_zero, List.set_cons_succ]
  refine wpAnyH_take (i := 9) (oi := { dst := some 43, op := Op.move (Operand.tmp 9), type := 24, pos := "law.go:124", after := #[{ on := 6, ground := Ground.guard }], guard := some (6, false) }) (v := ?_) rfl (by kernel_rfl) (by kernel_rfl) (by kernel_rfl) (fun _ _ _ h => h) (Or.inl ⟨by go_simp, ?_⟩) (by assumption) ?_
  rotate_left 1
  · intro w hSw
    (try dsimp only at hSw)
    go_simp
    all_goals try with_reducible rfl
  try simp only [Act.put, List.setIfInBounds_toArray, List.set_cons_zero, List.set_cons_succ]
  refine wpAnyH_take (i := 10) (oi := { dst := some 44, op := Op.call { callee := Callee.builtin Builtin.len, args := #[Operand.tmp 43], argTypes := #[24] }, type := 3, pos := "law.go:124", after := #[{ on := 9, ground := Ground.data }, { on := 6, ground := Ground.guard }], guard := some (6, false) }) (v := ?_) rfl (by kernel_rfl) (by kernel_rfl) (by kernel_rfl) (fun _ _ _ h => h) (Or.inl ⟨by go_simp, ?_⟩) (by assumption) ?_
  rotate_left 1
  · intro w hSw
    (try dsimp only at hSw)
    go_simp
    all_goals try with_reducible rfl
  try simp only [Act.put, List.setIfInBounds_toArray, List.set_cons_zero, List.set_cons_succ]
  refine wpAnyH_take (i := 11) (oi := { dst := some 45, op := Op.binOp BinOp.neq 3 (Operand.tmp 42) (Operand.tmp 44) 3, type := 4, pos := "law.go:124", after := #[{ on := 8, ground := Ground.data }, { on := 10, ground := Ground.data }, { on := 6, ground := Ground.guard }], guard := some (6, false) }) (v := ?_) rfl (by kernel_rfl) (by kernel_rfl) (by kernel_rfl) (fun _ _ _ h => h) (Or.inl ⟨by go_simp, ?_⟩) (by assumption) ?_
  rotate_left 1
  · intro w hSw
    (try dsimp only at hSw)
    go_simp
    all_goals try with_reducible rfl
  try simp only [Act.put, List.setIfInBounds_toArray, List.set_cons_zero, List.set_cons_succ]
  refine wpAnyH_take (i := 12) (oi := { dst := some 46, op := Op.pick (Operand.tmp 40) (Operand.const (Value.bool true)) (Operand.tmp 45), type := 4, pos := "law.go:124", after := #[{ on := 6, ground := Ground.data }, { on := 11, ground := Ground.data }], guard := none }) (v := ?_) rfl (by kernel_rfl) (by kernel_rfl) (by kernel_rfl) (fun _ _ _ h => h) (Or.inl ⟨by rfl, ?_⟩) (by assumption) ?_
  rotate_left 1
  · intro w hSw
    (try dsimp only at hSw)
    go_simp
    all_goals try with_reducible rfl
  try simp only [Act.put, List.setIfInBounds_toArray, List.set_cons_zero, List.set_cons_succ]
  refine wpAnyH_take (i := 13) (oi := { dst := some 47, op := Op.move (Operand.tmp 46), type := 4, pos := "law.go:124", after := #[{ on := 12, ground := Ground.data }, { on := 6, ground := Ground.chain }], guard := none }) (v := ?_) rfl (by kernel_rfl) (by kernel_rfl) (by kernel_rfl) (fun _ _ _ h => h) (Or.inl ⟨by rfl, ?_⟩) (by assumption) ?_
  rotate_left 1
  · intro w hSw
    (try dsimp only at hSw)
    go_simp
    all_goals try with_reducible rfl
  try simp only [Act.put, List.setIfInBounds_toArray, List.set_cons_zero, List.set_cons_succ]
  refine wpAnyH_take (i := 14) (oi := { dst := some 48, op := Op.load 27 (Operand.tmp 4), type := 27, pos := "law.go:124", after := #[{ on := 13, ground := Ground.guard }], guard := some (13, false) }) (v := ?_) rfl (by kernel_rfl) (by kernel_rfl) (by kernel_rfl) (fun _ _ _ h => h) (Or.inl ⟨by go_simp, ?_⟩) (by assumption) ?_
  rotate_left 1
  · intro w hSw
    (try dsimp only at hSw)
    go_simp
    all_goals try with_reducible rfl
  try simp only [Act.put, List.setIfInBounds_toArray, List.set_cons_zero, List.set_cons_succ]
  refine wpAnyH_take (i := 16) (oi := { dst := some 50, op := Op.load 27 (Operand.tmp 6), type := 27, pos := "law.go:124", after := #[{ on := 13, ground := Ground.guard }], guard := some (13, false) }) (v := ?_) rfl (by kernel_rfl) (by kernel_rfl) (by kernel_rfl) (fun _ _ _ h => h) (Or.inl ⟨by go_simp, ?_⟩) (by assumption) ?_
  rotate_left 1
  · intro w hSw
    (try dsimp only at hSw)
    go_simp
    all_goals try with_reducible rfl
  try simp only [Act.put, List.setIfInBounds_toArray, List.set_cons_zero, List.set_cons_succ]
  refine wpAnyH_ready (rs := [15]) (by kernel_rfl) (by simp) ?_
  refine AllReadyH.cons (o := { dst := some 49, op := Op.call { callee := Callee.value (Operand.func 20), args := #[Operand.tmp 48], argTypes := #[27] }, type := 4, pos := "law.go:124", after := #[{ on := 14, ground := Ground.data }, { on := 13, ground := Ground.chain }, { on := 13, ground := Ground.guard }], guard := some (13, false) }) rfl (fun K hK => ?_) AllReadyH.nil
  clear hHeld
  go_simp
  refine (empty_calls (HS9.out.below (below_drew (Below.refl w9.heap.size w9)))).mono ?_
  rintro e u1 ⟨rfl, hb⟩
  have HU1 := Aside0.mk (show Below w9.heap.size w9 u1 from Below.trans ((below_drew (Below.refl w9.heap.size w9))) (hb.mono ((below_drew (Below.refl w9.heap.size w9))).size))
  clear hb k10 k11 k12 k20 k21 k22
  have k10 := (blk_cell (blk_below HX9.out HU1.out) 0).trans (show _ = some (Value.slice A2 s.l.length c2) from rfl)
  have k11 := (blk_cell (blk_below HX9.out HU1.out) 1).trans (show _ = some (Value.map M2) from rfl)
  have k12 := (blk_cell (blk_below HX9.out HU1.out) 2).trans (show _ = some (Value.bool s.e) from rfl)
  have k20 := (blk_cell (blk_below HY9.out HU1.out) 0).trans (show _ = some (Value.slice A3 s.l.length c3) from rfl)
  have k21 := (blk_cell (blk_below HY9.out HU1.out) 1).trans (show _ = some (Value.map M3) from rfl)
  have k22 := (blk_cell (blk_below HY9.out HU1.out) 2).trans (show _ = some (Value.bool s.e) from rfl)
  refine hK.out _ _ ⟨k10, k11, k12, k20, k21, k22⟩ (fun hHeld => ?_)
  clear hK K
  try simp only [Act.put, List.setIfInBounds_toArray, List.set_cons_zero, List.set_cons_succ]
  refine wpAnyH_ready (rs := [17]) (by kernel_rfl) (by simp) ?_
  refine AllReadyH.cons (o := { dst := some 51, op := Op.call { callee := Callee.value (Operand.func 20), args := #[Operand.tmp 50], argTypes := #[27] }, type := 4, pos := "law.go:124", after := #[{ on := 16, ground := Ground.data }, { on := 15, ground := Ground.chain }, { on := 13, ground := Ground.guard }], guard := some (13, false) }) rfl (fun K hK => ?_) AllReadyH.nil
  clear hHeld
  go_simp
  refine (empty_calls (HT9.out.below HU1.out)).mono ?_
  rintro e u2 ⟨rfl, hb⟩
  have HU2 := Aside0.mk (show Below w9.heap.size w9 u2 from Below.trans (HU1.out) (hb.mono (HU1.out).size))
  clear hb k10 k11 k12 k20 k21 k22
  have k10 := (blk_cell (blk_below HX9.out HU2.out) 0).trans (show _ = some (Value.slice A2 s.l.length c2) from rfl)
  have k11 := (blk_cell (blk_below HX9.out HU2.out) 1).trans (show _ = some (Value.map M2) from rfl)
  have k12 := (blk_cell (blk_below HX9.out HU2.out) 2).trans (show _ = some (Value.bool s.e) from rfl)
  have k20 := (blk_cell (blk_below HY9.out HU2.out) 0).trans (show _ = some (Value.slice A3 s.l.length c3) from rfl)
  have k21 := (blk_cell (blk_below HY9.out HU2.out) 1).trans (show _ = some (Value.map M3) from rfl)
  have k22 := (blk_cell (blk_below HY9.out HU2.out) 2).trans (show _ = some (Value.bool s.e) from rfl)
  refine hK.out _ _ ⟨k10, k11, k12, k20, k21, k22⟩ (fun hHeld => ?_)
  clear hK K
  try simp only [Act.put, List.setIfInBounds_toArray, List.set_cons_zero, List.set_cons_succ]
  refine wpAnyH_take (i := 18) (oi := { dst := some 52, op := Op.binOp BinOp.neq 4 (Operand.tmp 49) (Operand.tmp 51) 4, type := 4, pos := "law.go:124", after := #[{ on := 15, ground := Ground.data }, { on := 17, ground := Ground.data }, { on := 13, ground := Ground.guard }], guard := some (13, false) }) (v := ?_) rfl (by kernel_rfl) (by kernel_rfl) (by kernel_rfl) (fun _ _ _ h => h) (Or.inl ⟨by go_simp, ?_⟩) (by assumption) ?_
  rotate_left 1
  · intro w hSw
    (try dsimp only at hSw)
    go_simp
    all_goals try with_reducible rfl
  try simp only [Act.put, List.setIfInBounds_toArray, List.set_cons_zero, List.set_cons_succ]
  refine wpAnyH_take (i := 19) (oi := { dst := some 53, op := Op.pick (Operand.tmp 47) (Operand.const (Value.bool true)) (Operand.tmp 52), type := 4, pos := "law.go:124", after := #[{ on := 13, ground := Ground.data }, { on := 18, ground := Ground.data }], guard := none }) (v := ?_) rfl (by kernel_rfl) (by kernel_rfl) (by kernel_rfl) (fun _ _ _ h => h) (Or.inl ⟨by rfl, ?_⟩) (by assumption) ?_
  rotate_left 1
  · intro w hSw
    (try dsimp only at hSw)
    go_simp
    all_goals try with_reducible rfl
  try simp only [Act.put, List.setIfInBounds_toArray, List.set_cons_zero, List.set_cons_succ]
  refine wpAnyH_done (by kernel_rfl) ?_ _
  have HCX := Aside0.mk (Kd.C_below HQ9.out HU2.out)
  have HCY := Aside0.mk (Kd.C_below HP9.out.2.2 HU2.out)
  have HB10 := Aside0.mk (Below.trans HB9.out (HU2.out.mono HB9.out.size))
  clear k10 k11 k12 k20 k21 k22 HX9 HY9 HS9 HT9 HB9 HU1 HU2 HP8 HP9 HQ9
  go_wp2
  go_loopw [10] (fun v10 wr => ∃ (i : Nat), v10 = .int .i64 (i : Int) ∧ Aside0 (i ≤ s.l.length) ∧ Aside0 (Below u2.heap.size u2 wr)) (fun v _ => s.l.length - (intOf v).toNat)
  case atStart => exact ⟨0, rfl, ⟨Nat.zero_le _⟩, ⟨Below.refl _ _⟩⟩
  case round =>
    obtain ⟨i, rfl, HI, HBW⟩ := hrel
    by_cases hlt : i < s.l.length
    · have e1 : decide ((i : Int) < (s.l.length : Int)) = true := decide_eq_true (by omega)
      have e2 : decide (i < s.l.length) = true := decide_eq_true hlt
      have HIL := Aside0.mk hlt
      obtain ⟨ad1, Ab1, cb1, rfl, p0, p1, p2⟩ := row_at (L := s.l) (Kd.C_below HCX.out HBW.out) i hlt
      obtain ⟨ad2, Ab2, cb2, rfl, r0, r1, r2⟩ := row_at (L := s.l) (Kd.C_below HCY.out HBW.out) i hlt
      have HPB := Aside0.mk (HLF.out _ (List.getElem_mem hlt))
      have HXL := Aside0.mk (HF.out.2.2.2 _ (List.getElem_mem hlt))
      generalize (s.l[i]'hlt) = x at p0 p1 p2 r0 r1 r2 HPB HXL
      have HPC := Aside0.mk (And.intro p0 (And.intro r0 (And.intro p2 r2)))
      have HRB := Aside0.mk (refbytes_calls x (by have := HXL.out; omega) HPB.out.2 wr.drew)
      rw [HPB.out.1] at HRB
      have z0 : 0 ≤ (i : Int) := by omega
      have z1 : (i : Int) < (s.l.length : Int) := by omega
      have hw2 : wrap64 ((i : Int) + 1) = ((i + 1 : Nat) : Int) := wr_big (by omega) (by have := HF.out.1; have := HIL.out; omega)
      clear hlt p1 r1
      replace p2 := Kd.C_drew p2
      replace r2 := Kd.C_drew r2
      go_wp2_with fail
      refine wp_region_held_drew (S := fun w' => w'.cell? (ad1.add i) = some (.slice Ab1 x.length cb1) ∧ w'.cell? (ad2.add i) = some (.slice Ab2 x.length cb2) ∧ Kd.C (Kd.int .u8) w' Ab1 x.length x ∧ Kd.C (Kd.int .u8) w' Ab2 x.length x) (by kernel_rfl) ⟨p0, r0, p2, r2⟩ (fun hHeld => ?_)
      refine wpAnyH_take (i := 0) (oi := { dst := some 60, op := Op.move (Operand.tmp 8), type := 24, pos := "law.go:128", after := #[], guard := none }) (v := ?_) rfl (by kernel_rfl) (by kernel_rfl) (by kernel_rfl) (fun _ _ _ h => h) (Or.inl ⟨by rfl, ?_⟩) (by assumption) ?_
      rotate_left 1
      · intro w hSw
        (try dsimp only at hSw)
        go_simp
        all_goals try with_reducible rfl
      try simp only [Act.put, List.setIfInBounds_toArray, List.set_cons_zero, List.set_cons_succ]
      refine wpAnyH_take (i := 1) (oi := { dst := some 61, op := Op.move (Operand.tmp 10), type := 3, pos := "law.go:128", after := #[], guard := none }) (v := ?_) rfl (by kernel_rfl) (by kernel_rfl) (by kernel_rfl) (fun _ _ _ h => h) (Or.inl ⟨by rfl, ?_⟩) (by assumption) ?_
      rotate_left 1
      · intro w hSw
        (try dsimp only at hSw)
        go_simp
        all_goals try with_reducible rfl
      try simp only [Act.put, List.setIfInBounds_toArray, List.set_cons_zero, List.set_cons_succ]
      refine wpAnyH_take (i := 2) (oi := { dst := some 62, op := Op.indexAddr 24 (Operand.tmp 60) (Operand.tmp 61), type := 0, pos := "law.go:128", after := #[{ on := 0, ground := Ground.data }, { on := 1, ground := Ground.data }], guard := none }) (v := ?_) rfl (by kernel_rfl) (by kernel_rfl) (by kernel_rfl) (fun _ _ _ h => h) (Or.inl ⟨by rfl, ?_⟩) (by assumption) ?_
      rotate_left 1
      · intro w hSw
        (try dsimp only at hSw)
        go_simp
        all_goals try with_reducible rfl
      try simp only [Act.put, List.setIfInBounds_toArray, List.set_cons_zero, List.set_cons_succ]
      refine wpAnyH_take (i := 3) (oi := { dst := some 63, op := Op.load 22 (Operand.tmp 62), type := 22, pos := "law.go:128", after := #[{ on := 2, ground := Ground.data }], guard := none }) (v := ?_) rfl (by kernel_rfl) (by kernel_rfl) (by kernel_rfl) (fun _ _ _ h => h) (Or.inl ⟨by rfl, ?_⟩) (by assumption) ?_
      rotate_left 1
      · intro w hSw
        (try dsimp only at hSw)
        go_simp
        all_goals try with_reducible rfl
      try simp only [Act.put, List.setIfInBounds_toArray, List.set_cons_zero, List.set_cons_succ]
      refine wpAnyH_take (i := 4) (oi := { dst := some 64, op := Op.convert 22 9 (Operand.tmp 63), type := 9, pos := "law.go:128", after := #[{ on := 3, ground := Ground.data }], guard := none }) (v := ?_) rfl (by kernel_rfl) (by kernel_rfl) (by kernel_rfl) (fun _ _ _ h => h) (Or.inl ⟨by rfl, ?_⟩) (by assumption) ?_
      rotate_left 1
      · intro w hSw
        (try dsimp only at hSw)
        have sb := Kd.C_string (P := Try.prog) (A := Ab1) (c := cb1) Try.underlying22 Try.underlying5 Try.underlying9 hSw.2.2.1
        go_simp
        all_goals try with_reducible rfl
      try simp only [Act.put, List.setIfInBounds_toArray, List.set_cons_zero, List.set_cons_succ]
      refine wpAnyH_take (i := 5) (oi := { dst := some 65, op := Op.move (Operand.tmp 9), type := 24, pos := "law.go:128", after := #[], guard := none }) (v := ?_) rfl (by kernel_rfl) (by kernel_rfl) (by kernel_rfl) (fun _ _ _ h => h) (Or.inl ⟨by rfl, ?_⟩) (by assumption) ?_
      rotate_left 1
      · intro w hSw
        (try dsimp only at hSw)
        go_simp
        all_goals try with_reducible rfl
      try simp only [Act.put, List.setIfInBounds_toArray, List.set_cons_zero, List.set_cons_succ]
      refine wpAnyH_take (i := 6) (oi := { dst := some 66, op := Op.move (Operand.tmp 10), type := 3, pos := "law.go:128", after := #[], guard := none }) (v := ?_) rfl (by kernel_rfl) (by kernel_rfl) (by kernel_rfl) (fun _ _ _ h => h) (Or.inl ⟨by rfl, ?_⟩) (by assumption) ?_
      rotate_left 1
      · intro w hSw
        (try dsimp only at hSw)
        go_simp
        all_goals try with_reducible rfl
      try simp only [Act.put, List.setIfInBounds_toArray, List.set_cons_zero, List.set_cons_succ]
      refine wpAnyH_take (i := 7) (oi := { dst := some 67, op := Op.indexAddr 24 (Operand.tmp 65) (Operand.tmp 66), type := 0, pos := "law.go:128", after := #[{ on := 5, ground := Ground.data }, { on := 6, ground := Ground.data }], guard := none }) (v := ?_) rfl (by kernel_rfl) (by kernel_rfl) (by kernel_rfl) (fun _ _ _ h => h) (Or.inl ⟨by rfl, ?_⟩) (by assumption) ?_
      rotate_left 1
      · intro w hSw
        (try dsimp only at hSw)
        go_simp
        all_goals try with_reducible rfl
      try simp only [Act.put, List.setIfInBounds_toArray, List.set_cons_zero, List.set_cons_succ]
      refine wpAnyH_take (i := 8) (oi := { dst := some 68, op := Op.load 22 (Operand.tmp 67), type := 22, pos := "law.go:128", after := #[{ on := 7, ground := Ground.data }], guard := none }) (v := ?_) rfl (by kernel_rfl) (by kernel_rfl) (by kernel_rfl) (fun _ _ _ h => h) (Or.inl ⟨by rfl, ?_⟩) (by assumption) ?_
      rotate_left 1
      · intro w hSw
        (try dsimp only at hSw)
        go_simp
        all_goals try with_reducible rfl
      try simp only [Act.put, List.setIfInBounds_toArray, List.set_cons_zero, List.set_cons_succ]
      refine wpAnyH_take (i := 9) (oi := { dst := some 69, op := Op.convert 22 9 (Operand.tmp 68), type := 9, pos := "law.go:128", after := #[{ on := 8, ground := Ground.data }], guard := none }) (v := ?_) rfl (by kernel_rfl) (by kernel_rfl) (by kernel_rfl) (fun _ _ _ h => h) (Or.inl ⟨by rfl, ?_⟩) (by assumption) ?_
      rotate_left 1
      · intro w hSw
        (try dsimp only at hSw)
        have sb := Kd.C_string (P := Try.prog) (A := Ab2) (c := cb2) Try.underlying22 Try.underlying5 Try.underlying9 hSw.2.2.2
        go_simp
        all_goals try with_reducible rfl
      try simp only [Act.put, List.setIfInBounds_toArray, List.set_cons_zero, List.set_cons_succ]
      refine wpAnyH_take (i := 10) (oi := { dst := some 70, op := Op.binOp BinOp.neq 9 (Operand.tmp 64) (Operand.tmp 69) 9, type := 4, pos := "law.go:128", after := #[{ on := 4, ground := Ground.data }, { on := 9, ground := Ground.data }], guard := none }) (v := ?_) rfl (by kernel_rfl) (by kernel_rfl) (by kernel_rfl) (fun _ _ _ h => h) (Or.inl ⟨by rfl, ?_⟩) (by assumption) ?_
      rotate_left 1
      · intro w hSw
        (try dsimp only at hSw)
        go_simp
        all_goals try with_reducible rfl
      try simp only [Act.put, List.setIfInBounds_toArray, List.set_cons_zero, List.set_cons_succ]
      refine wpAnyH_take (i := 11) (oi := { dst := some 71, op := Op.move (Operand.tmp 70), type := 4, pos := "law.go:128", after := #[{ on := 10, ground := Ground.data }], guard := none }) (v := ?_) rfl (by kernel_rfl) (by kernel_rfl) (by kernel_rfl) (fun _ _ _ h => h) (Or.inl ⟨by rfl, ?_⟩) (by assumption) ?_
      rotate_left 1
      · intro w hSw
        (try dsimp only at hSw)
        go_simp
        all_goals try with_reducible rfl
      try simp only [Act.put, List.setIfInBounds_toArray, List.set_cons_zero, List.set_cons_succ]
      refine wpAnyH_take (i := 12) (oi := { dst := some 72, op := Op.move (Operand.tmp 8), type := 24, pos := "law.go:128", after := #[{ on := 11, ground := Ground.guard }], guard := some (11, false) }) (v := ?_) rfl (by kernel_rfl) (by kernel_rfl) (by kernel_rfl) (fun _ _ _ h => h) (Or.inl ⟨by go_simp, ?_⟩) (by assumption) ?_
      rotate_left 1
      · intro w hSw
        (try dsimp only at hSw)
        go_simp
        all_goals try with_reducible rfl
      try simp only [Act.put, List.setIfInBounds_toArray, List.set_cons_zero, List.set_cons_succ]
      refine wpAnyH_take (i := 13) (oi := { dst := some 73, op := Op.move (Operand.tmp 10), type := 3, pos := "law.go:128", after := #[{ on := 11, ground := Ground.guard }], guard := some (11, false) }) (v := ?_) rfl (by kernel_rfl) (by kernel_rfl) (by kernel_rfl) (fun _ _ _ h => h) (Or.inl ⟨by go_simp, ?_⟩) (by assumption) ?_
      rotate_left 1
      · intro w hSw
        (try dsimp only at hSw)
        go_simp
        all_goals try with_reducible rfl
      try simp only [Act.put, List.setIfInBounds_toArray, List.set_cons_zero, List.set_cons_succ]
      refine wpAnyH_take (i := 14) (oi := { dst := some 74, op := Op.indexAddr 24 (Operand.tmp 72) (Operand.tmp 73), type := 0, pos := "law.go:128", after := #[{ on := 12, ground := Ground.data }, { on := 13, ground := Ground.data }, { on := 11, ground := Ground.guard }], guard := some (11, false) }) (v := ?_) rfl (by kernel_rfl) (by kernel_rfl) (by kernel_rfl) (fun _ _ _ h => h) (Or.inl ⟨by go_simp, ?_⟩) (by assumption) ?_
      rotate_left 1
      · intro w hSw
        (try dsimp only at hSw)
        go_simp
        all_goals try with_reducible rfl
      try simp only [Act.put, List.setIfInBounds_toArray, List.set_cons_zero, List.set_cons_succ]
      refine wpAnyH_take (i := 15) (oi := { dst := some 75, op := Op.load 22 (Operand.tmp 74), type := 22, pos := "law.go:128", after := #[{ on := 14, ground := Ground.data }, { on := 11, ground := Ground.guard }], guard := some (11, false) }) (v := ?_) rfl (by kernel_rfl) (by kernel_rfl) (by kernel_rfl) (fun _ _ _ h => h) (Or.inl ⟨by go_simp, ?_⟩) (by assumption) ?_
      rotate_left 1
      · intro w hSw
        (try dsimp only at hSw)
        go_simp
        all_goals try with_reducible rfl
      try simp only [Act.put, List.setIfInBounds_toArray, List.set_cons_zero, List.set_cons_succ]
      refine wpAnyH_take (i := 16) (oi := { dst := some 76, op := Op.convert 22 9 (Operand.tmp 75), type := 9, pos := "law.go:128", after := #[{ on := 15, ground := Ground.data }, { on := 11, ground := Ground.guard }], guard := some (11, false) }) (v := ?_) rfl (by kernel_rfl) (by kernel_rfl) (by kernel_rfl) (fun _ _ _ h => h) (Or.inl ⟨by go_simp, ?_⟩) (by assumption) ?_
      rotate_left 1
      · intro w hSw
        (try dsimp only at hSw)
        have sb := Kd.C_string (P := Try.prog) (A := Ab1) (c := cb1) Try.underlying22 Try.underlying5 Try.underlying9 hSw.2.2.1
        go_simp
        all_goals try with_reducible rfl
      try simp only [Act.put, List.setIfInBounds_toArray, List.set_cons_zero, List.set_cons_succ]
      refine wpAnyH_take (i := 18) (oi := { dst := some 78, op := Op.move (Operand.tmp 8), type := 24, pos := "law.go:128", after := #[{ on := 11, ground := Ground.guard }], guard := some (11, false) }) (v := ?_) rfl (by kernel_rfl) (by kernel_rfl) (by kernel_rfl) (fun _ _ _ h => h) (Or.inl ⟨by go_simp, ?_⟩) (by assumption) ?_
      rotate_left 1
      · intro w hSw
        (try dsimp only at hSw)
        go_simp
        all_goals try with_reducible rfl
      try simp only [Act.put, List.setIfInBounds_toArray, List.set_cons_zero, List.set_cons_succ]
      refine wpAnyH_take (i := 19) (oi := { dst := some 79, op := Op.move (Operand.tmp 10), type := 3, pos := "law.go:128", after := #[{ on := 11, ground := Ground.guard }], guard := some (11, false) }) (v := ?_) rfl (by kernel_rfl) (by kernel_rfl) (by kernel_rfl) (fun _ _ _ h => h) (Or.inl ⟨by go_simp, ?_⟩) (by assumption) ?_
      rotate_left 1
      · intro w hSw
        (try dsimp only at hSw)
        go_simp
        all_goals try with_reducible rfl
      try simp only [Act.put, List.setIfInBounds_toArray, List.set_cons_zero, List.set_cons_succ]
      refine wpAnyH_take (i := 20) (oi := { dst := some 80, op := Op.indexAddr 24 (Operand.tmp 78) (Operand.tmp 79), type := 0, pos := "law.go:128", after := #[{ on := 18, ground := Ground.data }, { on := 19, ground := Ground.data }, { on := 11, ground := Ground.guard }], guard := some (11, false) }) (v := ?_) rfl (by kernel_rfl) (by kernel_rfl) (by kernel_rfl) (fun _ _ _ h => h) (Or.inl ⟨by go_simp, ?_⟩) (by assumption) ?_
      rotate_left 1
      · intro w hSw
        (try dsimp only at hSw)
        go_simp
        all_goals try with_reducible rfl
      try simp only [Act.put, List.setIfInBounds_toArray, List.set_cons_zero, List.set_cons_succ]
      refine wpAnyH_take (i := 21) (oi := { dst := some 81, op := Op.load 22 (Operand.tmp 80), type := 22, pos := "law.go:128", after := #[{ on := 20, ground := Ground.data }, { on := 11, ground := Ground.guard }], guard := some (11, false) }) (v := ?_) rfl (by kernel_rfl) (by kernel_rfl) (by kernel_rfl) (fun _ _ _ h => h) (Or.inl ⟨by go_simp, ?_⟩) (by assumption) ?_
      rotate_left 1
      · intro w hSw
        (try dsimp only at hSw)
        go_simp
        all_goals try with_reducible rfl
      try simp only [Act.put, List.setIfInBounds_toArray, List.set_cons_zero, List.set_cons_succ]
      refine wpAnyH_take (i := 22) (oi := { dst := some 82, op := Op.convert 22 9 (Operand.tmp 81), type := 9, pos := "law.go:128", after := #[{ on := 21, ground := Ground.data }, { on := 11, ground := Ground.guard }], guard := some (11, false) }) (v := ?_) rfl (by kernel_rfl) (by kernel_rfl) (by kernel_rfl) (fun _ _ _ h => h) (Or.inl ⟨by go_simp, ?_⟩) (by assumption) ?_
      rotate_left 1
      · intro w hSw
        (try dsimp only at hSw)
        have sb := Kd.C_string (P := Try.prog) (A := Ab1) (c := cb1) Try.underlying22 Try.underlying5 Try.underlying9 hSw.2.2.1
        go_simp
        all_goals try with_reducible rfl
      try simp only [Act.put, List.setIfInBounds_toArray, List.set_cons_zero, List.set_cons_succ]
      refine wpAnyH_ready (rs := [17]) (by kernel_rfl) (by simp) ?_
      refine AllReadyH.cons (o := { dst := some 77, op := Op.call { callee := Callee.value (Operand.func 19), args := #[Operand.tmp 76], argTypes := #[9] }, type := 9, pos := "law.go:128", after := #[{ on := 16, ground := Ground.data }, { on := 11, ground := Ground.chain }, { on := 11, ground := Ground.guard }], guard := some (11, false) }) rfl (fun K hK => ?_) AllReadyH.nil
      clear hHeld
      go_simp
      refine HRB.out.mono ?_
      rintro e u9 ⟨rfl, hb⟩
      have HU9 := Aside0.mk (show Below wr.heap.size wr u9 from Below.trans (below_drew (Below.refl _ _)) hb)
      clear hb p0 r0 p2 r2
      have p0 := Go.Proofs.YtkpfnhkfecpefaaW.PrintWords.cell_kept HPC.out.1 (Kept.of_below HU9.out (fun _ => False)) (fun h => h)
      have r0 := Go.Proofs.YtkpfnhkfecpefaaW.PrintWords.cell_kept HPC.out.2.1 (Kept.of_below HU9.out (fun _ => False)) (fun h => h)
      have p2 := Kd.C_below HPC.out.2.2.1 HU9.out
      have r2 := Kd.C_below HPC.out.2.2.2 HU9.out
      refine hK.out _ _ ⟨p0, r0, p2, r2⟩ (fun hHeld => ?_)
      clear hK K
      try simp only [Act.put, List.setIfInBounds_toArray, List.set_cons_zero, List.set_cons_succ]
      refine wpAnyH_take (i := 23) (oi := { dst := some 83, op := Op.binOp BinOp.neq 9 (Operand.tmp 77) (Operand.tmp 82) 9, type := 4, pos := "law.go:128", after := #[{ on := 17, ground := Ground.data }, { on := 22, ground := Ground.data }, { on := 11, ground := Ground.guard }], guard := some (11, false) }) (v := ?_) rfl (by kernel_rfl) (by kernel_rfl) (by kernel_rfl) (fun _ _ _ h => h) (Or.inl ⟨by go_simp, ?_⟩) (by assumption) ?_
      rotate_left 1
      · intro w hSw
        (try dsimp only at hSw)
        go_simp
        all_goals try with_reducible rfl
      try simp only [Act.put, List.setIfInBounds_toArray, List.set_cons_zero, List.set_cons_succ]
      refine wpAnyH_take (i := 24) (oi := { dst := some 84, op := Op.pick (Operand.tmp 71) (Operand.const (Value.bool true)) (Operand.tmp 83), type := 4, pos := "law.go:128", after := #[{ on := 11, ground := Ground.data }, { on := 23, ground := Ground.data }], guard := none }) (v := ?_) rfl (by kernel_rfl) (by kernel_rfl) (by kernel_rfl) (fun _ _ _ h => h) (Or.inl ⟨by rfl, ?_⟩) (by assumption) ?_
      rotate_left 1
      · intro w hSw
        (try dsimp only at hSw)
        go_simp
        all_goals try with_reducible rfl
      try simp only [Act.put, List.setIfInBounds_toArray, List.set_cons_zero, List.set_cons_succ]
      refine wpAnyH_done (by kernel_rfl) ?_ _
      go_wp2
      go_roundw
      case rel => exact ⟨i + 1, by first | rfl | exact congrArg (Value.int .i64) hw2, HIL, ⟨Below.trans HBW.out (HU9.out.mono HBW.out.size)⟩⟩
      case measure => exact ms_step HIL.out (by first | exact hw2 | simp)
    · have e1 : decide ((i : Int) < (s.l.length : Int)) = false := decide_eq_false (by omega)
      have e2 : decide (i < s.l.length) = false := decide_eq_false hlt
      clear hlt
      go_wp2
      go_ret
      exact ⟨rfl, Below.trans HB10.out (HBW.out.mono HB10.out.size)⟩
end Go.Proofs.Ytkpfnhkfecpefaa.Pat
