/- What the methods of classes.Classes give: how many, a byte, the table, a class by its number; of any table of classes. -/
import Derived.Test.YtongadhccpfpeaaSet9
import Derived.ChangeKeysEq
namespace Go.Proofs.Ytongadhccpfpeaa.Base9
open Go Go.RowKit Go.Proofs.YtongadhccpfpeaaW.PrintWords Go.Proofs.YtongadhccpfpeaaW.PrintLast Go.Proofs.YtongadhccpfpeaaW.PrintMore
set_option linter.unusedVariables false
set_option linter.unusedSimpArgs false
theorem info3c : ∃ i, Try.prog.info? 3 = some i ∧ Try.prog.cellsOf 3 = 1 := by
  have h : (Try.prog.info? 3).map (·.size) = some 1 := by kernel_rfl
  obtain ⟨i, hi, he⟩ := Option.map_eq_some_iff.mp h
  exact ⟨i, hi, by unfold Program.cellsOf; simp [hi, he]⟩
theorem plain3 : Try.prog.plainKey 3 = true := by unfold Program.plainKey; rw [Try.underlying3]
theorem eq_items (W : World) (d : Nat) (K J : Nat → Int) (xs ys : Array Value) : ∀ is : List Nat, (∀ i ∈ is, xs[i]? = some (.int .i64 (K i))) → (∀ i ∈ is, ys[i]? = some (.int .i64 (J i))) →
    (Op.eqItems (d + 1) 3 1 xs ys is).run Try.prog W = .ok (decide (∀ i ∈ is, K i = J i)) W
  | [], _, _ => by simp [Op.eqItems]
  | i :: is, hx, hy => by
    have ih := eq_items W d K J xs ys is (fun j hj => hx j (List.mem_cons_of_mem _ hj)) (fun j hj => hy j (List.mem_cons_of_mem _ hj))
    have e1 := run_part_plain (P := Try.prog) W plain3 (hx i (by simp))
    have e2 := run_part_plain (P := Try.prog) W plain3 (hy i (by simp))
    simp only [Op.eqItems, Nat.mul_one, Sem.run_bind, e1, e2, Result.andThen_ok, run_equalIn_int W d 3 .i64 .i64 (K i) (J i) Try.underlying3]
    by_cases h : K i = J i
    · simp [h, ih]
    · simp [h]
/-- whole tables are held against each other -/
theorem eq_tab (W : World) (K J : Nat → Int) (xs ys : Array Value) (hx : ∀ i, i < 256 → xs[i]? = some (.int .i64 (K i))) (hy : ∀ i, i < 256 → ys[i]? = some (.int .i64 (J i))) :
    (Op.equalIn 10000 27 (.agg xs) (.agg ys)).run Try.prog W = .ok (decide (∀ i ∈ List.range 256, K i = J i)) W := by
  obtain ⟨i, hi, hc⟩ := info3c
  rw [show (10000 : Nat) = 9999 + 1 from rfl, run_equalIn_array (P := Try.prog) W 9999 xs ys Try.underlying27 hi, hc, show (9999 : Nat) = 9998 + 1 from rfl, eq_items W 9998 K J xs ys (List.range 256) (fun i hi => hx i (List.mem_range.mp hi)) (fun i hi => hy i (List.mem_range.mp hi))]
def z27 : Array Value := Array.replicate 256 (.int .i64 0)
theorem zero27 (W : World) : (zeroValue 27).run Try.prog W = .ok (.agg z27) W := by
  have h : (Try.prog.info? 27).map (·.zero) = some (some (.agg z27)) := by kernel_rfl
  obtain ⟨i, hi, he⟩ := Option.map_eq_some_iff.mp h
  simp [zeroValue, typeInfo, hi, he, Sem.run_bind]
theorem info27 : (Try.prog.info? 27).map (·.size) = some 256 := by kernel_rfl
theorem build29 (W : World) : (Instr.build 29 #[]).run Try.prog W = .ok (.agg zeroC) W := by
  have h3 : (Try.prog.info? 27).map (·.size) = some 256 := by kernel_rfl
  have h4 : (Try.prog.info? 3).map (·.size) = some 1 := by kernel_rfl
  obtain ⟨i3, hi3, he3⟩ := Option.map_eq_some_iff.mp h3
  obtain ⟨i4, hi4, he4⟩ := Option.map_eq_some_iff.mp h4
  simp [Instr.build, Sem.run_bind, zero29, run_underlying (P := Try.prog) Try.underlying29, sizeOf, typeInfo, hi3, hi4, he3, he4, Instr.fill, Value.cells]
theorem field29 (W : World) (cs : Array Value) : (Instr.field 29 (.agg cs) 0).run Try.prog W = .ok (.agg (cs.extract 0 256)) W := by
  have h3 : (Try.prog.info? 27).map (·.size) = some 256 := by kernel_rfl
  obtain ⟨i3, hi3, he3⟩ := Option.map_eq_some_iff.mp h3
  simp [Instr.field, Sem.run_bind, run_underlying (P := Try.prog) Try.underlying29, run_underlying (P := Try.prog) Try.underlying27, part, isAgg, sizeOf, typeInfo, hi3, he3, asAgg]
def upK (K : Nat → Int) (k : Int) (n : Nat) : List Int := ((List.range n).filter (fun b => K b == k)).map (fun n : Nat => (n : Int))
theorem upK_succ (K : Nat → Int) (k : Int) (n : Nat) : upK K k (n + 1) = if (K n == k) = true then upK K k n ++ [(n : Int)] else upK K k n := by
  unfold upK
  rw [List.range_succ, List.filter_append]
  by_cases h : (K n == k) = true <;> simp [h]
theorem upK_len (K : Nat → Int) (k : Int) (n : Nat) : (upK K k n).length ≤ n := by
  unfold upK
  rw [List.length_map]
  refine Nat.le_trans (List.length_filter_le _ _) ?_
  simp
/-- the whole table is zero -/
def zeroK (K : Nat → Int) : Bool := decide (∀ i ∈ List.range 256, K i = 0)
theorem upK_all (K : Nat → Int) (h : zeroK K = true) : upK K 0 256 = (List.range 256).map (fun n : Nat => (n : Int)) := by
  unfold zeroK at h
  have h := of_decide_eq_true h
  unfold upK
  rw [List.filter_eq_self.2 (fun i hi => by simpa using h i hi)]
set_option maxHeartbeats 8000000 in
set_option maxRecDepth 100000 in
theorem bytesK_calls (K : Nat → Int) (cs : Array Value) (hsz : cs.size = 257) (hk : ∀ b, b < 256 → cs[b]? = some (.int .i64 (K b))) (k : Int) (w : World) :
    Calls Try.prog 15 #[.agg cs, .int .i64 k] w fun e w' => ∃ v0_ : Value, e = .returned v0_ ∧ Kd.R (Kd.int .u8) 5 w' w.heap.size (fun _ => True) v0_ (upK K k 256) ∧ Below w.heap.size w w' := by
  have HSU := Aside0.mk (upK_succ K k)
  have HLN := Aside0.mk (upK_len K k)
  have HA := Aside0.mk hk
  have hu27 := Try.underlying27
  have HALL := Aside0.mk (fun (h1 : k = 0) (h2 : zeroK K = true) => show upK K k 256 = (List.range 256).map (fun n : Nat => (n : Int)) by subst h1; exact upK_all K h2)
  have hcl : (cs.toList.take 256).length = 256 := by simp; omega
  have hzc : (zeroC.extract 0 256).size = 256 := by simp [zeroC]
  have hzx : ∀ i, i < 256 → (zeroC.extract 0 256)[i]? = some (.int .i64 0) := fun i hi => by
    simp [zeroC, Array.getElem?_extract, Array.getElem?_replicate]; omega
  have hcx : ∀ i, i < 256 → ((cs.toList.take 256).toArray)[i]? = some (.int .i64 (K i)) := fun i hi => by
    rw [← hk i hi]
    simp [List.getElem?_take, hi]
  have heq : ∀ W : World, (Op.equalIn 10000 27 (.agg (cs.toList.take 256).toArray) (.agg (zeroC.extract 0 256))).run Try.prog W = .ok (zeroK K) W := fun W => eq_tab W K (fun _ => 0) _ _ hcx hzx
  have hrg : (w.alloc (.cells cs 29)).rangeAt w.heap.size 0 (cs.toList.take 256) := fun j v hv => by
    rw [Nat.zero_add, blk_cell (blk_new w (.cells cs 29)) j]
    rw [List.getElem?_take] at hv
    split at hv
    · simpa using hv
    · cases hv
  have hi1 : (Try.prog.info? 27).map (·.size) = some (cs.toList.take 256).length := by rw [hcl]; exact info27
  have HRG := Aside0.mk hrg
  have HI1 := Aside0.mk hi1
  clear hrg hi1 hcl hzc hzx hcx hk hsz
  generalize hzk : zeroK K = zk at heq HALL
  generalize upK K k = U at HSU HLN HALL ⊢
  obtain ⟨L, hL⟩ : ∃ L, L = U 256 := ⟨_, rfl⟩
  rw [← hL] at HALL ⊢
  clear hzk
  have HF := Aside0.mk hL
  clear hL
  by_cases hk0 : k = 0
  · have q0 : (k == 0) = true := by simpa using hk0
    have q1 : decide (k = 0) = true := decide_eq_true hk0
    have hf29 := fun W => field29 W zeroC
    have hb29 := zero29
    generalize zeroC.extract 0 256 = zx at heq hf29
    generalize zeroC = zc at hf29 hb29
    cases zk
    · have heq' : ∀ W : World, (Op.equalIn 10000 27 (.agg (cs.toList.take 256).toArray) (.agg zx)).run Try.prog W = .ok false W := heq
      clear heq
      subst hk0
      go_enter Try.func15, Try.ntmps15
      go_wp2
      refine wp_load_mid 27 (.tmp 10) rfl w.heap.size 0 rfl (cs.toList.take 256) _ HRG.out Try.underlying27 rfl HI1.out ?_
      go_wp2
      go_loopw [5, 17] (fun v5 v17 wr => ∃ n : Nat, v17 = .int .i64 (n : Int) ∧ Aside0 (n ≤ 256) ∧ Aside0 (Kd.R (Kd.int .u8) 5 wr w.heap.size (fun k => k ≠ w.heap.size) v5 (U n)) ∧ Aside0 (wr.heap[w.heap.size]? = some (.cells cs 29 (0, 0))) ∧ Aside0 (Below w.heap.size w wr)) (fun _ i _ => 256 - (intOf i).toNat)
      case atStart =>
        refine ⟨0, rfl, ⟨by omega⟩, ⟨?_⟩, ⟨blk_new w _⟩, ⟨by repeat (first | exact Below.refl _ _ | apply below_alloc)⟩⟩
        have h0 : U 0 = [] := List.length_eq_zero_iff.mp (Nat.le_zero.mp (HLN.out 0))
        rw [h0]
        exact Kd.R_nil _ _ _ _ _
      case round =>
        obtain ⟨n, rfl, HL, HR, HS, HB⟩ := hrel
        by_cases hlt : n < 256
        · have c2b0 : decide ((n : Int) < 256) = true := decide_eq_true (by omega)
          have c2b1 : decide (n < 256) = true := decide_eq_true hlt
          have p0 : 0 ≤ (n : Int) := by omega
          have hm : (n : Int) % 256 = (n : Int) := by omega
          have hw8 : IntKind.u8.wrap (n : Int) = (n : Int) := IntWalk.u8_in _ (by omega)
          have HW := Aside0.mk (show wrap64 ((n : Int) + 1) = ((n + 1 : Nat) : Int) by unfold wrap64; omega)
          have k0 : wr.cell? ⟨w.heap.size, n, none⟩ = some (.int .i64 (K n)) := (blk_cell HS.out n).trans (HA.out n hlt)
          have hs := HSU.out n
          have HLT := Aside0.mk hlt
          clear hlt
          generalize K n = kn at k0 hs
          by_cases hq : kn = 0
          · subst hq
            have HU := Aside0.mk (show U (n + 1) = U n ++ [(n : Int)] by simpa using hs)
            clear hs
            have HLIM := Aside0.mk (show ((U n).length + 1) * 1 ≤ 140737488355328 by have := HLN.out n; have := HLT.out; omega)
            go_wp2_with (at_builtin; refine Kd.R_append (Kd.int .u8) (w0 := w) w.heap.size rfl (.tmp 26) (.tmp 29) 36 5 (.int .u8 0) 1 rfl Try.underlying36 info5 rfl (by decide) (by decide) _ (U n) (n : Int) [.int .u8 (n : Int)] (fun k => k ≠ w.heap.size) (fun _ => False) rfl rfl rfl (fun _ h => h.elim) (fun k hk => by have h1 := HB.out.size; have h2 := blk_lt HS.out; omega) HR.out HB.out HB.out.size HLIM.out ?_; intro v1 w1 hr1 hb1 hg1 hat1)
            go_roundw
            case rel => exact ⟨n + 1, by first | (rw [HW.out]; done) | rfl, ⟨HLT.out⟩, ⟨by rw [HU.out]; exact hr1⟩, ⟨blk_grown HS.out hg1 (fun e => HR.out.1 _ e.symm rfl)⟩, ⟨hb1⟩⟩
            case measure => have := HLT.out; (try rw [HW.out]); simp [intOf]; omega
          · have HU := Aside0.mk (show U (n + 1) = U n by simpa [hq] using hs)
            have hq1 : (kn == 0) = false := by simpa using hq
            have hq2 : decide (kn = 0) = false := decide_eq_false hq
            clear hs
            go_wp2
            go_roundw
            case rel => exact ⟨n + 1, by first | (rw [HW.out]; done) | rfl, ⟨HLT.out⟩, ⟨by rw [HU.out]; exact HR.out⟩, ⟨HS.out⟩, ⟨HB.out⟩⟩
            case measure => have := HLT.out; (try rw [HW.out]); simp [intOf]; omega
        · have c2b0 : decide ((n : Int) < 256) = false := decide_eq_false (by omega)
          have c2b1 : decide (n < 256) = false := decide_eq_false hlt
          obtain rfl : n = 256 := by have := HL.out; omega
          clear hlt
          go_wp2
          go_ret
          exact ⟨_, rfl, by rw [HF.out]; exact Kd.R_mono HR.out (fun _ _ => trivial), HB.out⟩
    · clear HF HSU HLN
      have heq' : ∀ W : World, (Op.equalIn 10000 27 (.agg (cs.toList.take 256).toArray) (.agg zx)).run Try.prog W = .ok true W := heq
      clear heq
      have HALL2 := Aside0.mk (HALL.out hk0 rfl)
      subst hk0
      have HC := Aside0.mk (fun w => all_calls w)
      rw [← HALL2.out] at HC
      go_enter Try.func15, Try.ntmps15
      go_wp2
      refine wp_load_mid 27 (.tmp 10) rfl w.heap.size 0 rfl (cs.toList.take 256) _ HRG.out Try.underlying27 rfl HI1.out ?_
      go_wp2_with fail
      refine (HC.out _).mono ?_
      rintro e w3 ⟨v, rfl, hr, hb3⟩
      obtain ⟨A, c, hv⟩ := Kd.R_slice hr
      subst hv
      have HR3 := Aside0.mk hr
      have HB3 := Aside0.mk hb3
      clear hr hb3
      go_wp2
      go_ret
      exact ⟨_, rfl, Kd.R_lower HR3.out (show w.heap.size ≤ (w.alloc (.cells cs 29)).heap.size by rw [World.size_alloc]; omega), below_step (below_alloc (Below.refl _ _) _) HB3.out⟩
  · have q0 : (k == 0) = false := by simpa using hk0
    have q1 : decide (k = 0) = false := decide_eq_false hk0
    go_enter Try.func15, Try.ntmps15
    go_wp2
    go_loopw [5, 17] (fun v5 v17 wr => ∃ n : Nat, v17 = .int .i64 (n : Int) ∧ Aside0 (n ≤ 256) ∧ Aside0 (Kd.R (Kd.int .u8) 5 wr w.heap.size (fun k => k ≠ w.heap.size) v5 (U n)) ∧ Aside0 (wr.heap[w.heap.size]? = some (.cells cs 29 (0, 0))) ∧ Aside0 (Below w.heap.size w wr)) (fun _ i _ => 256 - (intOf i).toNat)
    case atStart =>
      refine ⟨0, rfl, ⟨by omega⟩, ⟨?_⟩, ⟨blk_new w _⟩, ⟨by repeat (first | exact Below.refl _ _ | apply below_alloc)⟩⟩
      have h0 : U 0 = [] := List.length_eq_zero_iff.mp (Nat.le_zero.mp (HLN.out 0))
      rw [h0]
      exact Kd.R_nil _ _ _ _ _
    case round =>
      obtain ⟨n, rfl, HL, HR, HS, HB⟩ := hrel
      by_cases hlt : n < 256
      · have c2b0 : decide ((n : Int) < 256) = true := decide_eq_true (by omega)
        have c2b1 : decide (n < 256) = true := decide_eq_true hlt
        have p0 : 0 ≤ (n : Int) := by omega
        have hm : (n : Int) % 256 = (n : Int) := by omega
        have hw8 : IntKind.u8.wrap (n : Int) = (n : Int) := IntWalk.u8_in _ (by omega)
        have HW := Aside0.mk (show wrap64 ((n : Int) + 1) = ((n + 1 : Nat) : Int) by unfold wrap64; omega)
        have k0 : wr.cell? ⟨w.heap.size, n, none⟩ = some (.int .i64 (K n)) := (blk_cell HS.out n).trans (HA.out n hlt)
        have hs := HSU.out n
        have HLT := Aside0.mk hlt
        clear hlt
        generalize K n = kn at k0 hs
        by_cases hq : kn = k
        · subst hq
          have HU := Aside0.mk (show U (n + 1) = U n ++ [(n : Int)] by simpa using hs)
          clear hs
          have HLIM := Aside0.mk (show ((U n).length + 1) * 1 ≤ 140737488355328 by have := HLN.out n; have := HLT.out; omega)
          go_wp2_with (at_builtin; refine Kd.R_append (Kd.int .u8) (w0 := w) w.heap.size rfl (.tmp 26) (.tmp 29) 36 5 (.int .u8 0) 1 rfl Try.underlying36 info5 rfl (by decide) (by decide) _ (U n) (n : Int) [.int .u8 (n : Int)] (fun k => k ≠ w.heap.size) (fun _ => False) rfl rfl rfl (fun _ h => h.elim) (fun k hk => by have h1 := HB.out.size; have h2 := blk_lt HS.out; omega) HR.out HB.out HB.out.size HLIM.out ?_; intro v1 w1 hr1 hb1 hg1 hat1)
          go_roundw
          case rel => exact ⟨n + 1, by first | (rw [HW.out]; done) | rfl, ⟨HLT.out⟩, ⟨by rw [HU.out]; exact hr1⟩, ⟨blk_grown HS.out hg1 (fun e => HR.out.1 _ e.symm rfl)⟩, ⟨hb1⟩⟩
          case measure => have := HLT.out; (try rw [HW.out]); simp [intOf]; omega
        · have HU := Aside0.mk (show U (n + 1) = U n by simpa [hq] using hs)
          have hq1 : (kn == k) = false := by simpa using hq
          have hq2 : decide (kn = k) = false := decide_eq_false hq
          clear hs
          go_wp2
          go_roundw
          case rel => exact ⟨n + 1, by first | (rw [HW.out]; done) | rfl, ⟨HLT.out⟩, ⟨by rw [HU.out]; exact HR.out⟩, ⟨HS.out⟩, ⟨HB.out⟩⟩
          case measure => have := HLT.out; (try rw [HW.out]); simp [intOf]; omega
      · have c2b0 : decide ((n : Int) < 256) = false := decide_eq_false (by omega)
        have c2b1 : decide (n < 256) = false := decide_eq_false hlt
        obtain rfl : n = 256 := by have := HL.out; omega
        clear hlt
        go_wp2
        go_ret
        exact ⟨_, rfl, by rw [HF.out]; exact Kd.R_mono HR.out (fun _ _ => trivial), HB.out⟩
set_option maxHeartbeats 1000000 in
set_option maxRecDepth 100000 in
theorem len_calls (cs : Array Value) (n : Int) (w : World) (hsz : cs.size = 257) (hn : cs[256]? = some (.int .i64 n)) (h0 : 0 ≤ n) (h1 : n ≤ 1000) :
    Calls Try.prog 13 #[.agg cs] w fun e w' => e = .returned (.int .i64 (n + 1)) ∧ Below w.heap.size w w' := by
  have hb := blk_new w (.cells cs 29)
  have k := blk_cell hb 256
  rw [hn] at k
  have hw : wrap64 (n + 1) = n + 1 := by unfold wrap64; omega
  go_enter Try.func13, Try.ntmps13
  go_wp2
  go_ret
  exact ⟨rfl, below_alloc (Below.refl _ w) _⟩
set_option maxHeartbeats 1000000 in
set_option maxRecDepth 100000 in
theorem class_calls (cs : Array Value) (b : Nat) (x : Int) (w : World) (hsz : cs.size = 257) (hb : b < 256) (hx : cs[b]? = some (.int .i64 x)) :
    Calls Try.prog 11 #[.agg cs, .int .u8 (b : Int)] w fun e w' => e = .returned (.int .i64 x) ∧ Below w.heap.size w w' := by
  have hbk := blk_new w (.cells cs 29)
  have k := blk_cell hbk b
  rw [hx] at k
  have u27 := Try.underlying27
  have d0 : decide ((0 : Int) ≤ (b : Int)) = true := decide_eq_true (by omega)
  have d1 : decide ((b : Int) < 256) = true := decide_eq_true (by omega)
  go_enter Try.func11, Try.ntmps11
  go_wp2
  go_ret
  exact ⟨rfl, below_alloc (Below.refl _ w) _⟩
set_option maxHeartbeats 1000000 in
set_option maxRecDepth 100000 in
theorem table_calls (cs : Array Value) (w : World) (hsz : cs.size = 257) (h1 : cs.all (·.oneCell') = true) :
    Calls Try.prog 10 #[.agg cs] w fun e w' => e = .returned (.agg (cs.toList.take 256).toArray) ∧ Below w.heap.size w w' := by
  have hz := zero27
  have hzs : z27.size = 256 := by simp [z27]
  have hb1 := blk_alloc (blk_new w (.cells cs 29)) (.cells z27 27)
  have hb2 := blk_new (w.alloc (.cells cs 29)) (.cells z27 27)
  rw [World.size_alloc] at hb2
  have hcl : (cs.toList.take 256).length = 256 := by simp; omega
  have hrg : ((w.alloc (.cells cs 29)).alloc (.cells z27 27)).rangeAt w.heap.size 0 (cs.toList.take 256) := fun j v hv => by
    rw [Nat.zero_add, blk_cell hb1 j]
    rw [List.getElem?_take] at hv
    split at hv
    · simpa using hv
    · cases hv
  have hth : ((w.alloc (.cells cs 29)).alloc (.cells z27 27)).there (w.heap.size + 1) 0 (cs.toList.take 256).toArray.size := fun j hj => by
    have hj2 : j < 256 := by simpa [hcl] using hj
    rw [Nat.zero_add, blk_cell hb2 j]
    exact ⟨by simp [hzs, hj2], blk_frozen hb2 j⟩
  have hi1 : (Try.prog.info? 27).map (·.size) = some (cs.toList.take 256).length := by rw [hcl]; exact info27
  have hi2 : (Try.prog.info? 27).map (·.size) = some (cs.toList.take 256).toArray.size := by rw [List.size_toArray]; exact hi1
  have ha : (cs.toList.take 256).toArray.all (·.oneCell') = true := by
    rw [Array.all_eq_true_iff_forall_mem]
    intro v hv
    rw [Array.all_eq_true_iff_forall_mem] at h1
    exact h1 v (by have := List.mem_of_mem_take (by simpa using hv : v ∈ cs.toList.take 256); simpa using this)
  have HRG := Aside0.mk hrg
  have hone : ∀ v ∈ cs.toList.take 256, v.oneCell' = true := fun v hv => (Array.all_eq_true_iff_forall_mem.1 ha) v (by simpa using hv)
  have hst := run_storeCells_from (P := Try.prog) (w.heap.size + 1) 27 (cs.toList.take 256) 0 z27 ((w.alloc (.cells cs 29)).alloc (.cells z27 27)) hb2 (by rw [hcl, hzs]) hone
  rw [List.take_zero, List.nil_append] at hst
  have HG := Aside0.mk (setRow_heap _ (w.heap.size + 1) z27 (cs.toList.take 256).toArray 27 (0, 0) hb2)
  have HBB := Aside0.mk (below_setRow (below_alloc (below_alloc (Below.refl w.heap.size w) (.cells cs 29)) (.cells z27 27)) (by omega : w.heap.size ≤ w.heap.size + 1) (cs.toList.take 256).toArray)
  have HI1 := Aside0.mk hi1
  have HI2 := Aside0.mk hi2
  have HA := Aside0.mk ha
  clear hzs hrg hth hi1 hi2 ha hb1 hb2 h1 hone
  go_enter Try.func10, Try.ntmps10
  go_wp2
  refine wp_load_mid 27 (.tmp 3) rfl w.heap.size 0 rfl (cs.toList.take 256) (.array 256 3) HRG.out Try.underlying27 rfl HI1.out ?_
  go_wp2
  refine bodyPost_ret (results_single rfl (Vals.cell (w.heap.size + 1) 27 (cs.toList.take 256).toArray (0, 0) _ rfl HG.out Try.underlying27 rfl HI2.out Vals.nil)) rfl ?_
  exact ⟨rfl, HBB.out⟩

def bytesK (p : Nat → Bool) (k : Int) : List Int := upK (fun b => (clsK p b : Int)) k 256
theorem bytes_calls {p : Nat → Bool} {cs : Array Value} (h : Tbl p cs) (k : Int) (w : World) :
    Calls Try.prog 15 #[.agg cs, .int .i64 k] w fun e w' => ∃ v0_ : Value, e = .returned v0_ ∧ Kd.R (Kd.int .u8) 5 w' w.heap.size (fun _ => True) v0_ (bytesK p k) ∧ Below w.heap.size w w' :=
  bytesK_calls (fun b => (clsK p b : Int)) cs h.size h.at_ k w
theorem lenT_calls {p : Nat → Bool} {cs : Array Value} (h : Tbl p cs) (w : World) :
    Calls Try.prog 13 #[.agg cs] w fun e w' => e = .returned (.int .i64 ((cntp p 256 : Int) + 1)) ∧ Below w.heap.size w w' :=
  len_calls cs _ w h.size h.cnt (by omega) (by have := cntp_le p 256; omega)
theorem classT_calls {p : Nat → Bool} {cs : Array Value} (h : Tbl p cs) (b : Int) (h0 : 0 ≤ b) (h1 : b < 256) (w : World) :
    Calls Try.prog 11 #[.agg cs, .int .u8 b] w fun e w' => e = .returned (.int .i64 (clsK p b.toNat : Int)) ∧ Below w.heap.size w w' := by
  obtain ⟨n, rfl⟩ := Int.eq_ofNat_of_zero_le h0
  exact class_calls cs n _ w h.size (by omega) (h.at_ n (by omega))
theorem tableT_calls {p : Nat → Bool} {cs : Array Value} (h : Tbl p cs) (w : World) :
    Calls Try.prog 10 #[.agg cs] w fun e w' => e = .returned (.agg (cs.toList.take 256).toArray) ∧ Below w.heap.size w w' :=
  table_calls cs w h.size h.one

end Go.Proofs.Ytongadhccpfpeaa.Base9
