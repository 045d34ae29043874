/- Functions of the translation and what they come to: laid by a program of this session (xprint.py) beside contracts proved by hand. No condition. -/
import Derived.Test.YtnbncpnmdnhakaaPPairsFitsx0
namespace Go.Proofs.Ytnbncpnmdnhakaa.PPairsFits
open Go.RowKit Go.Proofs.YtnbncpnmdnhakaaW.PrintWords Go.Proofs.YtnbncpnmdnhakaaW.PrintLast Go.Proofs.YtnbncpnmdnhakaaW.PrintMore
attribute [local go_sem] max2_int min2_int max_two min_two max_three min_three max_four min_four   -- for this text's walks alone
set_option linter.unusedVariables false
set_option linter.unusedSimpArgs false

section
theorem eqPair23 (d : Nat) (w : World) (x0 y0 : Int) (x1 y1 : Int) :
    (Op.equalIn (d + 2) 23 (.agg #[.int .i64 x0, .int .i64 x1]) (.agg #[.int .i64 y0, .int .i64 y1])).run Try.prog w = .ok (x0 == y0 && (x1 == y1)) w := by
  refine eqA_of Try.underlying23 (by kernel_rfl) ?_
  refine eqf_cons (by rfl) (by go_simp; rfl) (by go_simp; rfl) (by go_simp) ?_
  exact eqf_last (by rfl) (by go_simp; rfl) (by go_simp; rfl) (by go_simp)
attribute [local go_sem high] eqPair23

def lessB (a b : S23) : Bool := if (a.f0 == b.f0) = true then decide (a.f1 < b.f1) else decide (a.f0 < b.f0)
set_option maxHeartbeats 4000000 in
set_option maxRecDepth 100000 in
theorem less_calls (a b : S23) (w : World) : Calls Try.prog 9 #[.agg #[.int .i64 a.f0, .int .i64 a.f1], .agg #[.int .i64 b.f0, .int .i64 b.f1]] w fun e w' => e = .returned (.bool (lessB a b)) ∧ Below w.heap.size w w' := by
  have hu23 := Try.underlying23
  cases h : (a.f0 == b.f0)
  · have h2 : (a.f0 != b.f0) = true := by simp [bne, h]
    have HE := Aside0.mk (show lessB a b = decide (a.f0 < b.f0) by unfold lessB; rw [h]; rfl)
    clear h
    go_enter Try.func9, Try.ntmps9
    go_wp2
    go_ret
    exact ⟨by rw [HE.out]; rfl, by repeat (first | exact Below.refl _ _ | apply below_alloc | apply pw_below_drewN)⟩
  · have h2 : (a.f0 != b.f0) = false := by simp [bne, h]
    have HE := Aside0.mk (show lessB a b = decide (a.f1 < b.f1) by unfold lessB; rw [h]; rfl)
    clear h
    go_enter Try.func9, Try.ntmps9
    go_wp2
    go_ret
    exact ⟨by rw [HE.out]; rfl, by repeat (first | exact Below.refl _ _ | apply below_alloc | apply pw_below_drewN)⟩

/-- one more pair behind, unless it is the last one -/
def putL (out : List S23) (x : S23) : List S23 := if out.length = 0 ∨ ((rd_T23 out ((out.length : Int) - 1)).f0 == x.f0 && ((rd_T23 out ((out.length : Int) - 1)).f1 == x.f1)) = false then out ++ [x] else out
/-- two rows in order as one -/
def joinL : List S23 → List S23 → List S23 → List S23
  | [], [], out => out
  | x :: a, [], out => joinL a [] (putL out x)
  | [], y :: b, out => joinL [] b (putL out y)
  | x :: a, y :: b, out => if lessB y x = true then joinL (x :: a) b (putL out y) else joinL a (y :: b) (putL out x)
  termination_by a b _ => a.length + b.length
def lenOf : Value → Nat
  | .slice _ n _ => n
  | _ => 0

set_option maxHeartbeats 8000000 in
set_option maxRecDepth 100000 in
theorem joined_calls (A0 : Option Addr) (c0 : Nat) (l0 : List S23) (A1 : Option Addr) (c1 : Nat) (l1 : List S23) (w : World) (hr0 : Kd.C k23 w A0 l0.length l0) (hc0 : l0.length ≤ c0) (hr1 : Kd.C k23 w A1 l1.length l1) (hc1 : l1.length ≤ c1)
    (hl : (l0.length + l1.length) * 16 ≤ 140737488355328) :
    Calls Try.prog 20 #[.slice A0 l0.length c0, .slice A1 l1.length c1, .func (.func 9) #[] #[]] w fun e w' => ∃ v0_ : Value, e = .returned v0_ ∧ Kd.R k23 23 w' w.heap.size (fun _ => True) v0_ (joinL l0 l1 []) ∧ Below w.heap.size w w' := by
  have hu23 := Try.underlying23
  obtain ⟨i23, hi23, hz23⟩ := Option.map_eq_some_iff.1 info23
  simp only [Prod.mk.injEq] at hz23
  have HR0 := Aside0.mk hr0
  have HC0 := Aside0.mk hc0
  have HR1 := Aside0.mk hr1
  have HC1 := Aside0.mk hc1
  have HL := Aside0.mk hl
  clear hr0 hc0 hr1 hc1 hl
  go_enter Try.func20, Try.ntmps20
  go_wp2
  go_loopw [0, 1, 7] (fun v0 v1 v7 wr => ∃ (A : Option Addr) (c : Nat) (a : List S23) (B : Option Addr) (d : Nat) (b out : List S23), v0 = .slice A a.length c ∧ v1 = .slice B b.length d ∧
      Aside0 (Kd.C k23 w A a.length a) ∧ Aside0 (a.length ≤ c) ∧ Aside0 (Kd.C k23 w B b.length b) ∧ Aside0 (b.length ≤ d) ∧ Aside0 (Kd.R k23 23 wr w.heap.size (fun _ => True) v7 out) ∧ Aside0 (Below w.heap.size w wr) ∧
      Aside0 (joinL a b out = joinL l0 l1 []) ∧ Aside0 (out.length + a.length + b.length ≤ l0.length + l1.length)) (fun v0 v1 _ _ => lenOf v0 + lenOf v1)
  case atStart => exact ⟨A0, c0, l0, A1, c1, l1, [], rfl, rfl, HR0, HC0, HR1, HC1, ⟨Kd.R_nil _ _ _ _ _⟩, ⟨Below.refl _ _⟩, ⟨rfl⟩, ⟨by simp⟩⟩
  case round =>
    obtain ⟨A, c, a, B, d, b, out, rfl, rfl, CA, LA, CB, LB, RO, HB, HJ, HN⟩ := hrel
    cases a with
    | nil =>
      cases b with
      | nil =>
        go_wp2
        go_ret
        have h := HJ.out
        rw [joinL] at h
        exact ⟨_, rfl, by rw [← h]; exact RO.out, HB.out⟩
      | cons y b =>
        have e1 : (((b.length : Int) + 1) == 0) = false := by rw [beq_eq_false_iff_ne]; omega
        have e0 : (0 < ((b.length : Int) + 1)) = True := eq_true (by omega)
        obtain ⟨ad, rfl, h0, h1⟩ := at_T23 CB.out 0 (by omega) (by simp)
        rw [show ad.add ((0 : Int).toNat * 2) = ad by simp [Addr.add], show rd_T23 (y :: b) 0 = y from rfl] at h0 h1
        simp only [List.length_nil, List.length_cons]
        go_wp2
        go_quiet (fail)
        go_wp2
        obtain ⟨W1, hW1⟩ : ∃ W1, W1 = (wr.alloc (.cells #[.int .i64 0, .int .i64 0] 23)).drewN nq := ⟨_, rfl⟩
        have hBK := Aside0.mk (show W1.heap[wr.heap.size]? = some (.cells #[.int .i64 0, .int .i64 0] 23 (0, 0)) by rw [hW1]; exact heap_alloc_new wr _)
        have RO1 := Aside0.mk (show Kd.R k23 23 W1 w.heap.size (fun k => k ≠ wr.heap.size) u7 out by
          rw [hW1]; exact Kd.R_drewN (Kd.R_mono (Kd.R_alloc (Kd.R_bound RO.out) _) (fun k hk => by have := hk.2.2.1; omega)) _)
        have HB1 := Aside0.mk (show Below w.heap.size w W1 by rw [hW1]; exact pw_below_drewN (below_alloc HB.out _) _)
        have H0 := Aside0.mk (pw_cell_below HB1.out h0)
        have H1 := Aside0.mk (pw_cell_below HB1.out h1)
        rw [← hW1]
        clear hW1 h0 h1 e1 e0
        have HJ2 := Aside0.mk (show joinL [] b (putL out y) = joinL l0 l1 [] by rw [← HJ.out]; simp [joinL])
        obtain ⟨E, hE⟩ : ∃ E : Option Addr, E = (if d = (1 : Int).toNat then (some ad : Option Addr) else (some ad).map (·.add ((1 : Int).toNat * 2))) := ⟨_, rfl⟩
        have hcut : ∀ W : World, (Instr.slice 27 (.slice (some ad) (b.length + 1) d) (some (.int .i64 1)) none none).run Try.prog W = .ok (.slice E b.length (d - 1)) W := by
          rw [hE]; exact cut_from (P := Try.prog) 27 23 .i64 Try.underlying27 hi23 2 hz23.2.1 (some ad) (b.length + 1) d 1 (by omega) (by omega)
        have HCB := Aside0.mk (show Kd.C k23 w E b.length b by
          have h := Kd.C_drop (m := 1) CB.out (by simp) LB.out
          rw [hE]
          exact h)
        have HLB := Aside0.mk (show b.length ≤ d - 1 by have := LB.out; simp only [List.length_cons] at this; omega)
        clear hE
        have q0 : W1.cell? ad = some (.int .i64 y.f0) := H0.out
        have q1 : W1.cell? ⟨ad.block, ad.off + 1, none⟩ = some (.int .i64 y.f1) := H1.out
        have q2 : W1.cell? ⟨wr.heap.size, 0, none⟩ = some (.int .i64 0) := (blk_cell hBK.out 0).trans rfl
        have q3 : W1.cell? ⟨wr.heap.size, 1, none⟩ = some (.int .i64 0) := (blk_cell hBK.out 1).trans rfl
        have q4 : W1.frozen? ⟨wr.heap.size, 0, none⟩ = false := blk_frozen hBK.out 0
        have q5 : W1.frozen? ⟨wr.heap.size, 1, none⟩ = false := blk_frozen hBK.out 1
        have HS := Aside0.mk (HB.out.size)
        go_region
        obtain ⟨W2, hW2⟩ : ∃ W2, W2 = ((W1.setCell ⟨wr.heap.size, 0, none⟩ (.int .i64 y.f0)).setCell ⟨wr.heap.size, 1, none⟩ (.int .i64 y.f1)).drew := ⟨_, rfl⟩
        have r1 : W2.heap[wr.heap.size]? = some (.cells #[.int .i64 y.f0, .int .i64 y.f1] 23 (0, 0)) := by
          rw [hW2]; exact blk_set (cs := #[.int .i64 y.f0, .int .i64 0]) (blk_set (cs := #[.int .i64 0, .int .i64 0]) hBK.out 0 _) 1 _
        have RO2 := Aside0.mk (show Kd.R k23 23 W2 w.heap.size (fun _ => True) u7 out by
          rw [hW2]; exact Kd.R_drew (Kd.R_mono (Kd.R_far (Kd.R_far RO1.out (fun k hk => hk) _) (fun k hk => hk) _) (fun _ _ => trivial)))
        have HB2 := Aside0.mk (show Below w.heap.size w W2 by rw [hW2]; exact below_drew (below_set (below_set HB1.out HS.out) HS.out))
        rw [← hW2]
        clear hW2 hBK q0 q1 q2 q3 q4 q5 RO1 HB1 hcut
        have k0 : W2.cell? ⟨wr.heap.size, 0, none⟩ = some (.int .i64 y.f0) := (blk_cell r1 0).trans rfl
        have k1 : W2.cell? ⟨wr.heap.size, 1, none⟩ = some (.int .i64 y.f1) := (blk_cell r1 1).trans rfl
        obtain ⟨O, co, rfl, hco, hC⟩ := Kd.R_reads RO2.out
        have HLIM := Aside0.mk (show (out.length + 1) * 16 ≤ 140737488355328 by have h1 := HN.out; have h2 := HL.out; simp only [List.length_nil, List.length_cons] at h1; omega)
        have hlen : out.length + 1 ≤ 140737488355328 := by have := HLIM.out; omega
        by_cases ho : out.length = 0
        · have HP := Aside0.mk (show putL out y = out ++ [y] by unfold putL; rw [if_pos (.inl ho)])
          have e2 : ((out.length : Int) == 0) = true := by rw [beq_iff_eq]; omega
          have e3 : (out.length == 0) = true := by rw [beq_iff_eq]; omega
          clear hC
          go_wp2
          go_quiet (fail)
          go_wp2_with (at_builtin; refine Kd.R_append k23 (w0 := w) w.heap.size rfl (.tmp 59) (.tmp 61) 27 23 _ 16 rfl Try.underlying27 info23 rfl (by decide) (by decide) _ out y [.int .i64 y.f0, .int .i64 y.f1] (fun _ => True) (fun _ => False) rfl rfl (k23_mkM _ _ _ y) (fun _ h => h.elim) (fun _ _ => trivial) (Kd.R_drewN RO2.out _) (pw_below_drewN HB2.out _) HB2.out.size HLIM.out ?_; intro v1 w1 hr1 hb1 hg1 hat1)
          go_roundw
          case rel => exact ⟨A, c, [], E, d - 1, b, out ++ [y], rfl, rfl, CA, LA, HCB, HLB, ⟨hr1⟩, ⟨hb1⟩, ⟨by rw [← HP.out]; exact HJ2.out⟩, ⟨by have h1 := HN.out; simp only [List.length_nil, List.length_cons, List.length_append] at h1 ⊢; omega⟩⟩
          case measure => simp [lenOf]
        · obtain ⟨ao, rfl, g0, g1⟩ := at_T23 hC ((out.length : Int) - 1) (by omega) (by omega)
          have e2 : ((out.length : Int) == 0) = false := by rw [beq_eq_false_iff_ne]; omega
          have e3 : (out.length == 0) = false := by rw [beq_eq_false_iff_ne]; omega
          have z1 : (0 ≤ (out.length : Int) - 1) = True := eq_true (by omega)
          have z2 : ((out.length : Int) - 1 < (out.length : Int)) = True := eq_true (by omega)
          have z3 : (1 ≤ (out.length : Int)) = True := eq_true (by omega)
          have z4 : IntKind.i64.wrap ((out.length : Int) - 1) = (out.length : Int) - 1 := by rw [IntKind.wrap_i64]; omega
          rw [show ((out.length : Int) - 1).toNat = out.length - 1 by omega] at g0 g1
          generalize hrd : rd_T23 out ((out.length : Int) - 1) = la at g0 g1
          cases hq : (la.f0 == y.f0 && (la.f1 == y.f1))
          · have HP := Aside0.mk (show putL out y = out ++ [y] by unfold putL; rw [if_pos (.inr (by rw [hrd]; exact hq))])
            clear hC hrd
            go_wp2
            go_quiet (fail)
            go_wp2_with (at_builtin; refine Kd.R_append k23 (w0 := w) w.heap.size rfl (.tmp 59) (.tmp 61) 27 23 _ 16 rfl Try.underlying27 info23 rfl (by decide) (by decide) _ out y [.int .i64 y.f0, .int .i64 y.f1] (fun _ => True) (fun _ => False) rfl rfl (k23_mkM _ _ _ y) (fun _ h => h.elim) (fun _ _ => trivial) (Kd.R_drewN RO2.out _) (pw_below_drewN HB2.out _) HB2.out.size HLIM.out ?_; intro v1 w1 hr1 hb1 hg1 hat1)
            go_roundw
            case rel => exact ⟨A, c, [], E, d - 1, b, out ++ [y], rfl, rfl, CA, LA, HCB, HLB, ⟨hr1⟩, ⟨hb1⟩, ⟨by rw [← HP.out]; exact HJ2.out⟩, ⟨by have h1 := HN.out; simp only [List.length_nil, List.length_cons, List.length_append] at h1 ⊢; omega⟩⟩
            case measure => simp [lenOf]
          · have HP := Aside0.mk (show putL out y = out by unfold putL; rw [if_neg (fun h => h.elim ho (fun h2 => by rw [hrd, hq] at h2; cases h2))])
            clear hC hrd
            go_wp2
            go_quiet (fail)
            go_wp2
            go_roundw
            case rel => exact ⟨A, c, [], E, d - 1, b, out, rfl, rfl, CA, LA, HCB, HLB, ⟨Kd.R_drewN RO2.out _⟩, ⟨pw_below_drewN HB2.out _⟩, ⟨by rw [← HJ2.out, HP.out]⟩, ⟨by have h1 := HN.out; simp only [List.length_nil, List.length_cons, List.length_append] at h1 ⊢; omega⟩⟩
            case measure => simp [lenOf]
    | cons x a =>
      cases b with
      | nil =>
        have e1 : (((a.length : Int) + 1) == 0) = false := by rw [beq_eq_false_iff_ne]; omega
        have e0 : (0 < ((a.length : Int) + 1)) = True := eq_true (by omega)
        obtain ⟨aa, rfl, h0, h1⟩ := at_T23 CA.out 0 (by omega) (by simp)
        rw [show aa.add ((0 : Int).toNat * 2) = aa by simp [Addr.add], show rd_T23 (x :: a) 0 = x from rfl] at h0 h1
        simp only [List.length_nil, List.length_cons]
        go_wp2
        go_quiet (fail)
        go_wp2
        obtain ⟨W1, hW1⟩ : ∃ W1, W1 = (wr.alloc (.cells #[.int .i64 0, .int .i64 0] 23)).drewN nq := ⟨_, rfl⟩
        have hBK := Aside0.mk (show W1.heap[wr.heap.size]? = some (.cells #[.int .i64 0, .int .i64 0] 23 (0, 0)) by rw [hW1]; exact heap_alloc_new wr _)
        have RO1 := Aside0.mk (show Kd.R k23 23 W1 w.heap.size (fun k => k ≠ wr.heap.size) u7 out by
          rw [hW1]; exact Kd.R_drewN (Kd.R_mono (Kd.R_alloc (Kd.R_bound RO.out) _) (fun k hk => by have := hk.2.2.1; omega)) _)
        have HB1 := Aside0.mk (show Below w.heap.size w W1 by rw [hW1]; exact pw_below_drewN (below_alloc HB.out _) _)
        have H0 := Aside0.mk (pw_cell_below HB1.out h0)
        have H1 := Aside0.mk (pw_cell_below HB1.out h1)
        rw [← hW1]
        clear hW1 h0 h1 e1 e0
        have HJ2 := Aside0.mk (show joinL a [] (putL out x) = joinL l0 l1 [] by rw [← HJ.out]; simp [joinL])
        obtain ⟨E, hE⟩ : ∃ E : Option Addr, E = (if c = (1 : Int).toNat then (some aa : Option Addr) else (some aa).map (·.add ((1 : Int).toNat * 2))) := ⟨_, rfl⟩
        have hcut : ∀ W : World, (Instr.slice 27 (.slice (some aa) (a.length + 1) c) (some (.int .i64 1)) none none).run Try.prog W = .ok (.slice E a.length (c - 1)) W := by
          rw [hE]; exact cut_from (P := Try.prog) 27 23 .i64 Try.underlying27 hi23 2 hz23.2.1 (some aa) (a.length + 1) c 1 (by omega) (by omega)
        have HCB := Aside0.mk (show Kd.C k23 w E a.length a by
          have h := Kd.C_drop (m := 1) CA.out (by simp) LA.out
          rw [hE]
          exact h)
        have HLB := Aside0.mk (show a.length ≤ c - 1 by have := LA.out; simp only [List.length_cons] at this; omega)
        clear hE
        have q0 : W1.cell? aa = some (.int .i64 x.f0) := H0.out
        have q1 : W1.cell? ⟨aa.block, aa.off + 1, none⟩ = some (.int .i64 x.f1) := H1.out
        have q2 : W1.cell? ⟨wr.heap.size, 0, none⟩ = some (.int .i64 0) := (blk_cell hBK.out 0).trans rfl
        have q3 : W1.cell? ⟨wr.heap.size, 1, none⟩ = some (.int .i64 0) := (blk_cell hBK.out 1).trans rfl
        have q4 : W1.frozen? ⟨wr.heap.size, 0, none⟩ = false := blk_frozen hBK.out 0
        have q5 : W1.frozen? ⟨wr.heap.size, 1, none⟩ = false := blk_frozen hBK.out 1
        have HS := Aside0.mk (HB.out.size)
        go_region
        obtain ⟨W2, hW2⟩ : ∃ W2, W2 = ((W1.setCell ⟨wr.heap.size, 0, none⟩ (.int .i64 x.f0)).setCell ⟨wr.heap.size, 1, none⟩ (.int .i64 x.f1)).drew := ⟨_, rfl⟩
        have r1 : W2.heap[wr.heap.size]? = some (.cells #[.int .i64 x.f0, .int .i64 x.f1] 23 (0, 0)) := by
          rw [hW2]; exact blk_set (cs := #[.int .i64 x.f0, .int .i64 0]) (blk_set (cs := #[.int .i64 0, .int .i64 0]) hBK.out 0 _) 1 _
        have RO2 := Aside0.mk (show Kd.R k23 23 W2 w.heap.size (fun _ => True) u7 out by
          rw [hW2]; exact Kd.R_drew (Kd.R_mono (Kd.R_far (Kd.R_far RO1.out (fun k hk => hk) _) (fun k hk => hk) _) (fun _ _ => trivial)))
        have HB2 := Aside0.mk (show Below w.heap.size w W2 by rw [hW2]; exact below_drew (below_set (below_set HB1.out HS.out) HS.out))
        rw [← hW2]
        clear hW2 hBK q0 q1 q2 q3 q4 q5 RO1 HB1 hcut
        have k0 : W2.cell? ⟨wr.heap.size, 0, none⟩ = some (.int .i64 x.f0) := (blk_cell r1 0).trans rfl
        have k1 : W2.cell? ⟨wr.heap.size, 1, none⟩ = some (.int .i64 x.f1) := (blk_cell r1 1).trans rfl
        obtain ⟨O, co, rfl, hco, hC⟩ := Kd.R_reads RO2.out
        have HLIM := Aside0.mk (show (out.length + 1) * 16 ≤ 140737488355328 by have h1 := HN.out; have h2 := HL.out; simp only [List.length_nil, List.length_cons] at h1; omega)
        have hlen : out.length + 1 ≤ 140737488355328 := by have := HLIM.out; omega
        by_cases ho : out.length = 0
        · have HP := Aside0.mk (show putL out x = out ++ [x] by unfold putL; rw [if_pos (.inl ho)])
          have e2 : ((out.length : Int) == 0) = true := by rw [beq_iff_eq]; omega
          have e3 : (out.length == 0) = true := by rw [beq_iff_eq]; omega
          clear hC
          go_wp2
          go_quiet (fail)
          go_wp2_with (at_builtin; refine Kd.R_append k23 (w0 := w) w.heap.size rfl (.tmp 59) (.tmp 61) 27 23 _ 16 rfl Try.underlying27 info23 rfl (by decide) (by decide) _ out x [.int .i64 x.f0, .int .i64 x.f1] (fun _ => True) (fun _ => False) rfl rfl (k23_mkM _ _ _ x) (fun _ h => h.elim) (fun _ _ => trivial) (Kd.R_drewN RO2.out _) (pw_below_drewN HB2.out _) HB2.out.size HLIM.out ?_; intro v1 w1 hr1 hb1 hg1 hat1)
          go_roundw
          case rel => exact ⟨E, c - 1, a, B, d, [], out ++ [x], rfl, rfl, HCB, HLB, CB, LB, ⟨hr1⟩, ⟨hb1⟩, ⟨by rw [← HP.out]; exact HJ2.out⟩, ⟨by have h1 := HN.out; simp only [List.length_nil, List.length_cons, List.length_append] at h1 ⊢; omega⟩⟩
          case measure => simp [lenOf]
        · obtain ⟨ao, rfl, g0, g1⟩ := at_T23 hC ((out.length : Int) - 1) (by omega) (by omega)
          have e2 : ((out.length : Int) == 0) = false := by rw [beq_eq_false_iff_ne]; omega
          have e3 : (out.length == 0) = false := by rw [beq_eq_false_iff_ne]; omega
          have z1 : (0 ≤ (out.length : Int) - 1) = True := eq_true (by omega)
          have z2 : ((out.length : Int) - 1 < (out.length : Int)) = True := eq_true (by omega)
          have z3 : (1 ≤ (out.length : Int)) = True := eq_true (by omega)
          have z4 : IntKind.i64.wrap ((out.length : Int) - 1) = (out.length : Int) - 1 := by rw [IntKind.wrap_i64]; omega
          rw [show ((out.length : Int) - 1).toNat = out.length - 1 by omega] at g0 g1
          generalize hrd : rd_T23 out ((out.length : Int) - 1) = la at g0 g1
          cases hq : (la.f0 == x.f0 && (la.f1 == x.f1))
          · have HP := Aside0.mk (show putL out x = out ++ [x] by unfold putL; rw [if_pos (.inr (by rw [hrd]; exact hq))])
            clear hC hrd
            go_wp2
            go_quiet (fail)
            go_wp2_with (at_builtin; refine Kd.R_append k23 (w0 := w) w.heap.size rfl (.tmp 59) (.tmp 61) 27 23 _ 16 rfl Try.underlying27 info23 rfl (by decide) (by decide) _ out x [.int .i64 x.f0, .int .i64 x.f1] (fun _ => True) (fun _ => False) rfl rfl (k23_mkM _ _ _ x) (fun _ h => h.elim) (fun _ _ => trivial) (Kd.R_drewN RO2.out _) (pw_below_drewN HB2.out _) HB2.out.size HLIM.out ?_; intro v1 w1 hr1 hb1 hg1 hat1)
            go_roundw
            case rel => exact ⟨E, c - 1, a, B, d, [], out ++ [x], rfl, rfl, HCB, HLB, CB, LB, ⟨hr1⟩, ⟨hb1⟩, ⟨by rw [← HP.out]; exact HJ2.out⟩, ⟨by have h1 := HN.out; simp only [List.length_nil, List.length_cons, List.length_append] at h1 ⊢; omega⟩⟩
            case measure => simp [lenOf]
          · have HP := Aside0.mk (show putL out x = out by unfold putL; rw [if_neg (fun h => h.elim ho (fun h2 => by rw [hrd, hq] at h2; cases h2))])
            clear hC hrd
            go_wp2
            go_quiet (fail)
            go_wp2
            go_roundw
            case rel => exact ⟨E, c - 1, a, B, d, [], out, rfl, rfl, HCB, HLB, CB, LB, ⟨Kd.R_drewN RO2.out _⟩, ⟨pw_below_drewN HB2.out _⟩, ⟨by rw [← HJ2.out, HP.out]⟩, ⟨by have h1 := HN.out; simp only [List.length_nil, List.length_cons, List.length_append] at h1 ⊢; omega⟩⟩
            case measure => simp [lenOf]
      | cons y b =>
        have e1 : (((b.length : Int) + 1) == 0) = false := by rw [beq_eq_false_iff_ne]; omega
        have e0 : (0 < ((a.length : Int) + 1)) = True := eq_true (by omega)
        obtain ⟨ad, rfl, h0, h1⟩ := at_T23 CB.out 0 (by omega) (by simp)
        obtain ⟨aa, rfl, i0, i1⟩ := at_T23 CA.out 0 (by omega) (by simp)
        rw [show ad.add ((0 : Int).toNat * 2) = ad by simp [Addr.add], show rd_T23 (y :: b) 0 = y from rfl] at h0 h1
        rw [show aa.add ((0 : Int).toNat * 2) = aa by simp [Addr.add], show rd_T23 (x :: a) 0 = x from rfl] at i0 i1
        have J0 := Aside0.mk h0
        have J1 := Aside0.mk h1
        have K0 := Aside0.mk i0
        have K1 := Aside0.mk i1
        have B0 := Aside0.mk (below_alloc HB.out (.cells #[.int .i64 0, .int .i64 0] 23))
        have HLC := Aside0.mk (fun (W : World) => less_calls y x W)
        simp only [List.length_nil, List.length_cons]
        go_wp2
        obtain ⟨W0, hW0⟩ : ∃ W0, W0 = (wr.alloc (.cells #[.int .i64 0, .int .i64 0] 23)) := ⟨_, rfl⟩
        rw [← hW0] at B0 ⊢
        replace h0 := pw_cell_below B0.out h0
        replace h1 := pw_cell_below B0.out h1
        replace i0 := pw_cell_below B0.out i0
        replace i1 := pw_cell_below B0.out i1
        have hBK0 := Aside0.mk (show W0.heap[wr.heap.size]? = some (.cells #[.int .i64 0, .int .i64 0] 23 (0, 0)) by rw [hW0]; exact heap_alloc_new wr _)
        have RO0 := Aside0.mk (show Kd.R k23 23 W0 w.heap.size (fun k => k ≠ wr.heap.size) u7 out by
          rw [hW0]; exact Kd.R_mono (Kd.R_alloc (Kd.R_bound RO.out) _) (fun k hk => by have := hk.2.2.1; omega))
        clear hW0
        generalize hlq : lessB y x = lq at HLC
        cases lq
        all_goals
          go_region_held3 (fun w' => w'.cell? ad = some (.int .i64 y.f0) ∧ w'.cell? ⟨ad.block, ad.off + 1, none⟩ = some (.int .i64 y.f1) ∧ w'.cell? aa = some (.int .i64 x.f0) ∧ w'.cell? ⟨aa.block, aa.off + 1, none⟩ = some (.int .i64 x.f1))
            (first | go_keep | (go_split_ands; refine ⟨pw_cell_below hb3 (by assumption), pw_cell_below hb3 (by assumption), pw_cell_below hb3 (by assumption), pw_cell_below hb3 (by assumption)⟩))
            ((go_at_call 9; refine (HLC.out _).mono ?_; rintro e w3 ⟨rfl, hb3⟩; have HB3 := Aside0.mk (show Below W0.heap.size W0 w3 from ((Below.refl W0.heap.size W0).drew).trans hb3)))
        · -- the first one of 'a' goes ahead
          obtain ⟨W1, hW1⟩ : ∃ W1, W1 = w3 := ⟨_, rfl⟩
          rw [← hW1] at HB3
          rw [← hW1]
          have hBK := Aside0.mk (show W1.heap[wr.heap.size]? = some (.cells #[.int .i64 0, .int .i64 0] 23 (0, 0)) from (HB3.out.block _ (blk_lt hBK0.out)).trans hBK0.out)
          have RO1 := Aside0.mk (Kd.R_below RO0.out HB3.out)
          have HB1 := Aside0.mk (below_step B0.out HB3.out)
          have H0 := Aside0.mk (pw_cell_below HB1.out K0.out)
          have H1 := Aside0.mk (pw_cell_below HB1.out K1.out)
          have HQ := Aside0.mk hlq
          clear hlq hW1 hb3 hBK0 RO0 HB3 HLC e1 e0
          (try clear hHeld)
          (try clear h0 h1 i0 i1)
          go_wp2
          have HJ2 := Aside0.mk (show joinL a (y :: b) (putL out x) = joinL l0 l1 [] by rw [← HJ.out]; rw [joinL, if_neg (by rw [HQ.out]; decide)])
          obtain ⟨E, hE⟩ : ∃ E : Option Addr, E = (if c = (1 : Int).toNat then (some aa : Option Addr) else (some aa).map (·.add ((1 : Int).toNat * 2))) := ⟨_, rfl⟩
          have hcut : ∀ W : World, (Instr.slice 27 (.slice (some aa) (a.length + 1) c) (some (.int .i64 1)) none none).run Try.prog W = .ok (.slice E a.length (c - 1)) W := by
            rw [hE]; exact cut_from (P := Try.prog) 27 23 .i64 Try.underlying27 hi23 2 hz23.2.1 (some aa) (a.length + 1) c 1 (by omega) (by omega)
          have HCB := Aside0.mk (show Kd.C k23 w E a.length a by
            have h := Kd.C_drop (m := 1) CA.out (by simp) LA.out
            rw [hE]
            exact h)
          have HLB := Aside0.mk (show a.length ≤ c - 1 by have := LA.out; simp only [List.length_cons] at this; omega)
          clear hE
          have q0 : W1.cell? aa = some (.int .i64 x.f0) := H0.out
          have q1 : W1.cell? ⟨aa.block, aa.off + 1, none⟩ = some (.int .i64 x.f1) := H1.out
          have q2 : W1.cell? ⟨wr.heap.size, 0, none⟩ = some (.int .i64 0) := (blk_cell hBK.out 0).trans rfl
          have q3 : W1.cell? ⟨wr.heap.size, 1, none⟩ = some (.int .i64 0) := (blk_cell hBK.out 1).trans rfl
          have q4 : W1.frozen? ⟨wr.heap.size, 0, none⟩ = false := blk_frozen hBK.out 0
          have q5 : W1.frozen? ⟨wr.heap.size, 1, none⟩ = false := blk_frozen hBK.out 1
          have HS := Aside0.mk (HB.out.size)
          go_region
          obtain ⟨W2, hW2⟩ : ∃ W2, W2 = ((W1.setCell ⟨wr.heap.size, 0, none⟩ (.int .i64 x.f0)).setCell ⟨wr.heap.size, 1, none⟩ (.int .i64 x.f1)).drew := ⟨_, rfl⟩
          have r1 : W2.heap[wr.heap.size]? = some (.cells #[.int .i64 x.f0, .int .i64 x.f1] 23 (0, 0)) := by
            rw [hW2]; exact blk_set (cs := #[.int .i64 x.f0, .int .i64 0]) (blk_set (cs := #[.int .i64 0, .int .i64 0]) hBK.out 0 _) 1 _
          have RO2 := Aside0.mk (show Kd.R k23 23 W2 w.heap.size (fun _ => True) u7 out by
            rw [hW2]; exact Kd.R_drew (Kd.R_mono (Kd.R_far (Kd.R_far RO1.out (fun k hk => hk) _) (fun k hk => hk) _) (fun _ _ => trivial)))
          have HB2 := Aside0.mk (show Below w.heap.size w W2 by rw [hW2]; exact below_drew (below_set (below_set HB1.out HS.out) HS.out))
          rw [← hW2]
          clear hW2 hBK q0 q1 q2 q3 q4 q5 RO1 HB1 hcut
          have k0 : W2.cell? ⟨wr.heap.size, 0, none⟩ = some (.int .i64 x.f0) := (blk_cell r1 0).trans rfl
          have k1 : W2.cell? ⟨wr.heap.size, 1, none⟩ = some (.int .i64 x.f1) := (blk_cell r1 1).trans rfl
          obtain ⟨O, co, rfl, hco, hC⟩ := Kd.R_reads RO2.out
          have HLIM := Aside0.mk (show (out.length + 1) * 16 ≤ 140737488355328 by have h1 := HN.out; have h2 := HL.out; simp only [List.length_nil, List.length_cons] at h1; omega)
          have hlen : out.length + 1 ≤ 140737488355328 := by have := HLIM.out; omega
          by_cases ho : out.length = 0
          · have HP := Aside0.mk (show putL out x = out ++ [x] by unfold putL; rw [if_pos (.inl ho)])
            have e2 : ((out.length : Int) == 0) = true := by rw [beq_iff_eq]; omega
            have e3 : (out.length == 0) = true := by rw [beq_iff_eq]; omega
            clear hC
            go_wp2
            go_quiet (fail)
            go_wp2_with (at_builtin; refine Kd.R_append k23 (w0 := w) w.heap.size rfl (.tmp 59) (.tmp 61) 27 23 _ 16 rfl Try.underlying27 info23 rfl (by decide) (by decide) _ out x [.int .i64 x.f0, .int .i64 x.f1] (fun _ => True) (fun _ => False) rfl rfl (k23_mkM _ _ _ x) (fun _ h => h.elim) (fun _ _ => trivial) (Kd.R_drewN RO2.out _) (pw_below_drewN HB2.out _) HB2.out.size HLIM.out ?_; intro v1 w1 hr1 hb1 hg1 hat1)
            go_roundw
            case rel => exact ⟨E, c - 1, a, some ad, d, y :: b, out ++ [x], rfl, rfl, HCB, HLB, CB, LB, ⟨hr1⟩, ⟨hb1⟩, ⟨by rw [← HP.out]; exact HJ2.out⟩, ⟨by have h1 := HN.out; simp only [List.length_nil, List.length_cons, List.length_append] at h1 ⊢; omega⟩⟩
            case measure => simp [lenOf]
          · obtain ⟨ao, rfl, g0, g1⟩ := at_T23 hC ((out.length : Int) - 1) (by omega) (by omega)
            have e2 : ((out.length : Int) == 0) = false := by rw [beq_eq_false_iff_ne]; omega
            have e3 : (out.length == 0) = false := by rw [beq_eq_false_iff_ne]; omega
            have z1 : (0 ≤ (out.length : Int) - 1) = True := eq_true (by omega)
            have z2 : ((out.length : Int) - 1 < (out.length : Int)) = True := eq_true (by omega)
            have z3 : (1 ≤ (out.length : Int)) = True := eq_true (by omega)
            have z4 : IntKind.i64.wrap ((out.length : Int) - 1) = (out.length : Int) - 1 := by rw [IntKind.wrap_i64]; omega
            rw [show ((out.length : Int) - 1).toNat = out.length - 1 by omega] at g0 g1
            generalize hrd : rd_T23 out ((out.length : Int) - 1) = la at g0 g1
            cases hq : (la.f0 == x.f0 && (la.f1 == x.f1))
            · have HP := Aside0.mk (show putL out x = out ++ [x] by unfold putL; rw [if_pos (.inr (by rw [hrd]; exact hq))])
              clear hC hrd
              go_wp2
              go_quiet (fail)
              go_wp2_with (at_builtin; refine Kd.R_append k23 (w0 := w) w.heap.size rfl (.tmp 59) (.tmp 61) 27 23 _ 16 rfl Try.underlying27 info23 rfl (by decide) (by decide) _ out x [.int .i64 x.f0, .int .i64 x.f1] (fun _ => True) (fun _ => False) rfl rfl (k23_mkM _ _ _ x) (fun _ h => h.elim) (fun _ _ => trivial) (Kd.R_drewN RO2.out _) (pw_below_drewN HB2.out _) HB2.out.size HLIM.out ?_; intro v1 w1 hr1 hb1 hg1 hat1)
              go_roundw
              case rel => exact ⟨E, c - 1, a, some ad, d, y :: b, out ++ [x], rfl, rfl, HCB, HLB, CB, LB, ⟨hr1⟩, ⟨hb1⟩, ⟨by rw [← HP.out]; exact HJ2.out⟩, ⟨by have h1 := HN.out; simp only [List.length_nil, List.length_cons, List.length_append] at h1 ⊢; omega⟩⟩
              case measure => simp [lenOf]
            · have HP := Aside0.mk (show putL out x = out by unfold putL; rw [if_neg (fun h => h.elim ho (fun h2 => by rw [hrd, hq] at h2; cases h2))])
              clear hC hrd
              go_wp2
              go_quiet (fail)
              go_wp2
              go_roundw
              case rel => exact ⟨E, c - 1, a, some ad, d, y :: b, out, rfl, rfl, HCB, HLB, CB, LB, ⟨Kd.R_drewN RO2.out _⟩, ⟨pw_below_drewN HB2.out _⟩, ⟨by rw [← HJ2.out, HP.out]⟩, ⟨by have h1 := HN.out; simp only [List.length_nil, List.length_cons, List.length_append] at h1 ⊢; omega⟩⟩
              case measure => simp [lenOf]
        · -- the first one of 'b' does
          obtain ⟨W1, hW1⟩ : ∃ W1, W1 = w3 := ⟨_, rfl⟩
          rw [← hW1] at HB3
          rw [← hW1]
          have hBK := Aside0.mk (show W1.heap[wr.heap.size]? = some (.cells #[.int .i64 0, .int .i64 0] 23 (0, 0)) from (HB3.out.block _ (blk_lt hBK0.out)).trans hBK0.out)
          have RO1 := Aside0.mk (Kd.R_below RO0.out HB3.out)
          have HB1 := Aside0.mk (below_step B0.out HB3.out)
          have H0 := Aside0.mk (pw_cell_below HB1.out J0.out)
          have H1 := Aside0.mk (pw_cell_below HB1.out J1.out)
          have HQ := Aside0.mk hlq
          clear hlq hW1 hb3 hBK0 RO0 HB3 HLC e1 e0
          (try clear hHeld)
          (try clear h0 h1 i0 i1)
          go_wp2
          have HJ2 := Aside0.mk (show joinL (x :: a) b (putL out y) = joinL l0 l1 [] by rw [← HJ.out]; rw [joinL, if_pos HQ.out])
          obtain ⟨E, hE⟩ : ∃ E : Option Addr, E = (if d = (1 : Int).toNat then (some ad : Option Addr) else (some ad).map (·.add ((1 : Int).toNat * 2))) := ⟨_, rfl⟩
          have hcut : ∀ W : World, (Instr.slice 27 (.slice (some ad) (b.length + 1) d) (some (.int .i64 1)) none none).run Try.prog W = .ok (.slice E b.length (d - 1)) W := by
            rw [hE]; exact cut_from (P := Try.prog) 27 23 .i64 Try.underlying27 hi23 2 hz23.2.1 (some ad) (b.length + 1) d 1 (by omega) (by omega)
          have HCB := Aside0.mk (show Kd.C k23 w E b.length b by
            have h := Kd.C_drop (m := 1) CB.out (by simp) LB.out
            rw [hE]
            exact h)
          have HLB := Aside0.mk (show b.length ≤ d - 1 by have := LB.out; simp only [List.length_cons] at this; omega)
          clear hE
          have q0 : W1.cell? ad = some (.int .i64 y.f0) := H0.out
          have q1 : W1.cell? ⟨ad.block, ad.off + 1, none⟩ = some (.int .i64 y.f1) := H1.out
          have q2 : W1.cell? ⟨wr.heap.size, 0, none⟩ = some (.int .i64 0) := (blk_cell hBK.out 0).trans rfl
          have q3 : W1.cell? ⟨wr.heap.size, 1, none⟩ = some (.int .i64 0) := (blk_cell hBK.out 1).trans rfl
          have q4 : W1.frozen? ⟨wr.heap.size, 0, none⟩ = false := blk_frozen hBK.out 0
          have q5 : W1.frozen? ⟨wr.heap.size, 1, none⟩ = false := blk_frozen hBK.out 1
          have HS := Aside0.mk (HB.out.size)
          go_region
          obtain ⟨W2, hW2⟩ : ∃ W2, W2 = ((W1.setCell ⟨wr.heap.size, 0, none⟩ (.int .i64 y.f0)).setCell ⟨wr.heap.size, 1, none⟩ (.int .i64 y.f1)).drew := ⟨_, rfl⟩
          have r1 : W2.heap[wr.heap.size]? = some (.cells #[.int .i64 y.f0, .int .i64 y.f1] 23 (0, 0)) := by
            rw [hW2]; exact blk_set (cs := #[.int .i64 y.f0, .int .i64 0]) (blk_set (cs := #[.int .i64 0, .int .i64 0]) hBK.out 0 _) 1 _
          have RO2 := Aside0.mk (show Kd.R k23 23 W2 w.heap.size (fun _ => True) u7 out by
            rw [hW2]; exact Kd.R_drew (Kd.R_mono (Kd.R_far (Kd.R_far RO1.out (fun k hk => hk) _) (fun k hk => hk) _) (fun _ _ => trivial)))
          have HB2 := Aside0.mk (show Below w.heap.size w W2 by rw [hW2]; exact below_drew (below_set (below_set HB1.out HS.out) HS.out))
          rw [← hW2]
          clear hW2 hBK q0 q1 q2 q3 q4 q5 RO1 HB1 hcut
          have k0 : W2.cell? ⟨wr.heap.size, 0, none⟩ = some (.int .i64 y.f0) := (blk_cell r1 0).trans rfl
          have k1 : W2.cell? ⟨wr.heap.size, 1, none⟩ = some (.int .i64 y.f1) := (blk_cell r1 1).trans rfl
          obtain ⟨O, co, rfl, hco, hC⟩ := Kd.R_reads RO2.out
          have HLIM := Aside0.mk (show (out.length + 1) * 16 ≤ 140737488355328 by have h1 := HN.out; have h2 := HL.out; simp only [List.length_nil, List.length_cons] at h1; omega)
          have hlen : out.length + 1 ≤ 140737488355328 := by have := HLIM.out; omega
          by_cases ho : out.length = 0
          · have HP := Aside0.mk (show putL out y = out ++ [y] by unfold putL; rw [if_pos (.inl ho)])
            have e2 : ((out.length : Int) == 0) = true := by rw [beq_iff_eq]; omega
            have e3 : (out.length == 0) = true := by rw [beq_iff_eq]; omega
            clear hC
            go_wp2
            go_quiet (fail)
            go_wp2_with (at_builtin; refine Kd.R_append k23 (w0 := w) w.heap.size rfl (.tmp 59) (.tmp 61) 27 23 _ 16 rfl Try.underlying27 info23 rfl (by decide) (by decide) _ out y [.int .i64 y.f0, .int .i64 y.f1] (fun _ => True) (fun _ => False) rfl rfl (k23_mkM _ _ _ y) (fun _ h => h.elim) (fun _ _ => trivial) (Kd.R_drewN RO2.out _) (pw_below_drewN HB2.out _) HB2.out.size HLIM.out ?_; intro v1 w1 hr1 hb1 hg1 hat1)
            go_roundw
            case rel => exact ⟨some aa, c, x :: a, E, d - 1, b, out ++ [y], rfl, rfl, CA, LA, HCB, HLB, ⟨hr1⟩, ⟨hb1⟩, ⟨by rw [← HP.out]; exact HJ2.out⟩, ⟨by have h1 := HN.out; simp only [List.length_nil, List.length_cons, List.length_append] at h1 ⊢; omega⟩⟩
            case measure => simp [lenOf]
          · obtain ⟨ao, rfl, g0, g1⟩ := at_T23 hC ((out.length : Int) - 1) (by omega) (by omega)
            have e2 : ((out.length : Int) == 0) = false := by rw [beq_eq_false_iff_ne]; omega
            have e3 : (out.length == 0) = false := by rw [beq_eq_false_iff_ne]; omega
            have z1 : (0 ≤ (out.length : Int) - 1) = True := eq_true (by omega)
            have z2 : ((out.length : Int) - 1 < (out.length : Int)) = True := eq_true (by omega)
            have z3 : (1 ≤ (out.length : Int)) = True := eq_true (by omega)
            have z4 : IntKind.i64.wrap ((out.length : Int) - 1) = (out.length : Int) - 1 := by rw [IntKind.wrap_i64]; omega
            rw [show ((out.length : Int) - 1).toNat = out.length - 1 by omega] at g0 g1
            generalize hrd : rd_T23 out ((out.length : Int) - 1) = la at g0 g1
            cases hq : (la.f0 == y.f0 && (la.f1 == y.f1))
            · have HP := Aside0.mk (show putL out y = out ++ [y] by unfold putL; rw [if_pos (.inr (by rw [hrd]; exact hq))])
              clear hC hrd
              go_wp2
              go_quiet (fail)
              go_wp2_with (at_builtin; refine Kd.R_append k23 (w0 := w) w.heap.size rfl (.tmp 59) (.tmp 61) 27 23 _ 16 rfl Try.underlying27 info23 rfl (by decide) (by decide) _ out y [.int .i64 y.f0, .int .i64 y.f1] (fun _ => True) (fun _ => False) rfl rfl (k23_mkM _ _ _ y) (fun _ h => h.elim) (fun _ _ => trivial) (Kd.R_drewN RO2.out _) (pw_below_drewN HB2.out _) HB2.out.size HLIM.out ?_; intro v1 w1 hr1 hb1 hg1 hat1)
              go_roundw
              case rel => exact ⟨some aa, c, x :: a, E, d - 1, b, out ++ [y], rfl, rfl, CA, LA, HCB, HLB, ⟨hr1⟩, ⟨hb1⟩, ⟨by rw [← HP.out]; exact HJ2.out⟩, ⟨by have h1 := HN.out; simp only [List.length_nil, List.length_cons, List.length_append] at h1 ⊢; omega⟩⟩
              case measure => simp [lenOf]
            · have HP := Aside0.mk (show putL out y = out by unfold putL; rw [if_neg (fun h => h.elim ho (fun h2 => by rw [hrd, hq] at h2; cases h2))])
              clear hC hrd
              go_wp2
              go_quiet (fail)
              go_wp2
              go_roundw
              case rel => exact ⟨some aa, c, x :: a, E, d - 1, b, out, rfl, rfl, CA, LA, HCB, HLB, ⟨Kd.R_drewN RO2.out _⟩, ⟨pw_below_drewN HB2.out _⟩, ⟨by rw [← HJ2.out, HP.out]⟩, ⟨by have h1 := HN.out; simp only [List.length_nil, List.length_cons, List.length_append] at h1 ⊢; omega⟩⟩
              case measure => simp [lenOf]
set_option maxHeartbeats 4000000 in
set_option maxRecDepth 100000 in
theorem clone_calls (A0 : Option Addr) (c0 : Nat) (l0 : List S23) (w : World) (hr0 : Kd.C k23 w A0 l0.length l0) (hc0 : l0.length ≤ c0) (hl : l0.length * 16 ≤ 140737488355328) :
    Calls Try.prog 19 #[.slice A0 l0.length c0] w fun e w' => ∃ v0_ : Value, e = .returned v0_ ∧ Kd.R k23 23 w' w.heap.size (fun _ => True) v0_ l0 ∧ Below w.heap.size w w' := by
  have HR := Aside0.mk hr0
  cases A0 with
  | none =>
    have h0 : l0 = [] := by
      rcases Nat.eq_zero_or_pos l0.length with h | h
      · exact List.length_eq_zero_iff.mp h
      · obtain ⟨ad, e, _⟩ := hr0.2.2 h
        cases e
    subst h0
    clear hr0 hc0 hl
    have heq := Lib.run_eql_slice_nil (P := Try.prog) w 27 23 none 0 c0 0 0 Try.underlying27
    go_enter Try.func19, Try.ntmps19
    go_wp2
    go_ret
    exact ⟨_, rfl, Kd.R_nil _ _ _ _ _, Below.refl _ _⟩
  | some ad =>
    clear hr0
    have heq := Lib.run_eql_slice_nil (P := Try.prog) w 27 23 (some ad) l0.length c0 0 0 Try.underlying27
    have HO := Aside0.mk (show Kd.R k23 23 (w.alloc (.cells #[] 23)) w.heap.size (fun _ => True) (.slice (some ⟨w.heap.size, 0, none⟩) 0 0) [] from
      ⟨fun _ _ => trivial, [], World.ownsRow_lit (base := w.heap.size) (e := 23) (size := Kd.sz k23) w #[] 0 (Nat.le_refl _) (by decide) (by simp), Reps.none _ _⟩)
    have HX := Aside0.mk (Kd.C_alloc HR.out (.cells #[] 23))
    have HB := Aside0.mk (below_alloc (Below.refl w.heap.size w) (.cells #[] 23))
    go_enter Try.func19, Try.ntmps19
    go_wp2_with (at_builtin; refine Kd.R_append_rows k23 (w0 := w) w.heap.size rfl (.tmp 5) (.tmp 6) 27 23 _ 16 rfl Try.underlying27 info23 rfl (by decide) (by decide) (.slice (some ⟨w.heap.size, 0, none⟩) 0 0) [] l0 (some ad) l0.length c0 (fun _ => True) (fun _ => False) rfl rfl HO.out HX.out (fun x cs h => by obtain rfl := k23_open h; exact k23_mkM _ _ _ x) (fun _ h => h.elim) (fun _ _ => trivial) HB.out (by simp) (by simpa using hl) ?_; intro v1 w1 hr1 hb1 hg1 hat1)
    go_ret
    exact ⟨_, rfl, by simpa using hr1, hb1⟩

/-- a list in order, each once -/
def sortL (l : List S23) : List S23 := if h : l.length < 2 then l else joinL (sortL (l.take (l.length / 2))) (sortL (l.drop (l.length / 2))) []
  termination_by l.length
  decreasing_by
    · rw [List.length_take]; omega
    · rw [List.length_drop]; omega
theorem joinL_len (n : Nat) : ∀ a b out : List S23, a.length + b.length = n → (joinL a b out).length ≤ out.length + n := by
  have hp : ∀ (out : List S23) (x : S23), (putL out x).length ≤ out.length + 1 := by
    intro out x; unfold putL; split <;> simp
  induction n with
  | zero =>
    intro a b out h
    obtain rfl : a = [] := List.length_eq_zero_iff.mp (by omega)
    obtain rfl : b = [] := List.length_eq_zero_iff.mp (by omega)
    simp [joinL]
  | succ n ih =>
    intro a b out h
    match a, b with
    | [], [] => simp at h
    | x :: a, [] =>
      rw [joinL]
      have := ih a [] (putL out x) (by simp at h ⊢; omega)
      have := hp out x
      omega
    | [], y :: b =>
      rw [joinL]
      have := ih [] b (putL out y) (by simp at h ⊢; omega)
      have := hp out y
      omega
    | x :: a, y :: b =>
      rw [joinL]
      split
      · have := ih (x :: a) b (putL out y) (by simp at h ⊢; omega)
        have := hp out y
        omega
      · have := ih a (y :: b) (putL out x) (by simp at h ⊢; omega)
        have := hp out x
        omega
theorem sortL_len (n : Nat) : ∀ l : List S23, l.length = n → (sortL l).length ≤ l.length := by
  induction n using Nat.strongRecOn with
  | _ n ih =>
    intro l hl
    rw [sortL]
    split
    · exact Nat.le_refl _
    · rename_i h
      have h1 := ih (l.take (l.length / 2)).length (by rw [List.length_take]; omega) (l.take (l.length / 2)) rfl
      have h2 := ih (l.drop (l.length / 2)).length (by rw [List.length_drop]; omega) (l.drop (l.length / 2)) rfl
      have h3 := joinL_len _ (sortL (l.take (l.length / 2))) (sortL (l.drop (l.length / 2))) [] rfl
      rw [List.length_take] at h1
      rw [List.length_drop] at h2
      simp at h3
      omega

set_option maxHeartbeats 8000000 in
set_option maxRecDepth 100000 in
theorem sort_calls (N : Nat) : ∀ (A0 : Option Addr) (c0 : Nat) (l0 : List S23) (w : World) (_ : l0.length = N) (hr0 : Kd.C k23 w A0 l0.length l0) (hc0 : l0.length ≤ c0) (hl : l0.length * 16 ≤ 140737488355328),
    Calls Try.prog 16 #[.slice A0 N c0] w fun e w' => ∃ v0_ : Value, e = .returned v0_ ∧ Kd.R k23 23 w' w.heap.size (fun _ => True) v0_ (sortL l0) ∧ Below w.heap.size w w' := by
  induction N using Nat.strongRecOn with
  | _ N ih =>
  intro A0 c0 l0 w hN hr0 hc0 hl
  have IH := Aside0.mk ih
  clear ih
  subst hN
  by_cases h2 : l0.length < 2
  · have hd : decide ((l0.length : Int) < 2) = true := decide_eq_true (by omega)
    have hd2 : decide (l0.length < 2) = true := decide_eq_true h2
    have HS := Aside0.mk (show sortL l0 = l0 by rw [sortL]; rw [dif_pos h2])
    have HCL := Aside0.mk (clone_calls A0 c0 l0 w hr0 hc0 hl)
    clear hr0 hc0 hl IH
    go_enter Try.func16, Try.ntmps16
    go_wp2_with fail
    refine HCL.out.mono ?_
    rintro e w1 ⟨v, rfl, hr, hb⟩
    go_wp2
    go_ret
    exact ⟨_, rfl, by rw [HS.out]; exact hr, hb⟩
  · have hd : decide ((l0.length : Int) < 2) = false := decide_eq_false (by omega)
    have hd2 : decide (l0.length < 2) = false := decide_eq_false h2
    obtain ⟨i23, hi23, hz23⟩ := Option.map_eq_some_iff.1 info23
    simp only [Prod.mk.injEq] at hz23
    obtain ⟨m, hm⟩ : ∃ m, m = l0.length / 2 := ⟨_, rfl⟩
    have hmi : (l0.length : Int) / 2 = (m : Int) := by omega
    have hm0 : 0 ≤ (m : Int) := by omega
    have hm1 : (m : Int) ≤ (l0.length : Int) := by omega
    have hw64 : wrap64 (m : Int) = (m : Int) := by unfold wrap64; omega
    obtain ⟨E, hE⟩ : ∃ E : Option Addr, E = (if c0 = (m : Int).toNat then A0 else A0.map (·.add ((m : Int).toNat * 2))) := ⟨_, rfl⟩
    have HS := Aside0.mk (show sortL l0 = joinL (sortL (l0.take m)) (sortL (l0.drop m)) [] by rw [sortL]; rw [dif_neg h2, hm])
    have hcutA : ∀ W : World, (Instr.slice 27 (.slice A0 l0.length c0) none (some (.int .i64 (m : Int))) none).run Try.prog W = .ok (.slice A0 m c0) W := by
      have h := cut_to (P := Try.prog) 27 23 .i64 Try.underlying27 hi23 A0 l0.length c0 (m : Int) (by omega) (by omega) hc0
      exact h
    have hcutB : ∀ W : World, (Instr.slice 27 (.slice A0 l0.length c0) (some (.int .i64 (m : Int))) none none).run Try.prog W = .ok (.slice E (l0.length - m) (c0 - m)) W := by
      rw [hE]; exact cut_from (P := Try.prog) 27 23 .i64 Try.underlying27 hi23 2 hz23.2.1 A0 l0.length c0 (m : Int) (by omega) (by omega)
    have CA := Kd.C_take (m := m) hr0 (by omega)
    have CB := Kd.C_drop (m := m) (c := c0) hr0 (by omega) hc0
    have hEB : (if c0 = m then A0 else A0.map (·.add (m * Kd.sz k23))) = E := hE.symm
    rw [hEB] at CB
    have H1 := Aside0.mk (fun (W : World) (hb : Below w.heap.size w W) => IH.out m (by omega) A0 c0 (l0.take m) W (by rw [List.length_take]; omega) (Kd.C_below CA hb) (by rw [List.length_take]; omega) (by rw [List.length_take]; omega))
    have H2 := Aside0.mk (fun (W : World) (hb : Below w.heap.size w W) => IH.out (l0.length - m) (by omega) E (c0 - m) (l0.drop m) W (by rw [List.length_drop]) (Kd.C_below CB hb) (by rw [List.length_drop]; omega) (by rw [List.length_drop]; omega))
    have L1 := sortL_len _ (l0.take m) rfl
    have L2 := sortL_len _ (l0.drop m) rfl
    rw [List.length_take] at L1
    rw [List.length_drop] at L2
    have HLIM := Aside0.mk (show ((sortL (l0.take m)).length + (sortL (l0.drop m)).length) * 16 ≤ 140737488355328 by omega)
    clear hE hEB CA CB hr0 hc0 hl L1 L2 IH hm
    generalize sortL (l0.take m) = s1 at *
    generalize sortL (l0.drop m) = s2 at *
    have tok1 : True := trivial
    have HB0 := Aside0.mk (Below.refl w.heap.size w)
    go_enter Try.func16, Try.ntmps16
    go_wp2
    go_region_held3 (fun w' => True)
      (first | go_keep | trivial)
      ((first
        | (go_at_call 16; have _t := tok1; refine (H1.out _ (by first | exact HB0.out.drew | exact HB0.out)).mono ?_; rintro e w1 ⟨v1, rfl, hr1, hb1⟩; clear tok1; obtain ⟨A1, c1, rfl, hc1, hC1⟩ := Kd.R_reads hr1; have HB1 := Aside0.mk (show Below w.heap.size w w1 from ((Below.refl w.heap.size w).drew).trans hb1); have HR1 := Aside0.mk hC1; have HC1 := Aside0.mk hc1; clear hr1 hb1 hC1 hc1)
        | (go_at_call 16; refine (H2.out _ HB1.out).mono ?_; rintro e w2 ⟨v2, rfl, hr2, hb2⟩; obtain ⟨A2, c2, rfl, hc2, hC2⟩ := Kd.R_reads hr2; have HB2 := Aside0.mk (below_step HB1.out hb2); have HR1' := Aside0.mk (Kd.C_below HR1.out hb2); have HR2 := Aside0.mk hC2; have HC2 := Aside0.mk hc2; clear hr2 hb2 hC2 hc2)
        | (go_at_call 20; refine (joined_calls A1 c1 s1 A2 c2 s2 _ HR1'.out HC1.out HR2.out HC2.out HLIM.out).mono ?_; rintro e w3 ⟨v3, rfl, hr3, hb3⟩; have HR3 := Aside0.mk (Kd.R_lower hr3 HB2.out.size); have HB3 := Aside0.mk (below_step HB2.out hb3); clear hr3 hb3)))
    go_wp2
    go_ret
    exact ⟨_, rfl, by rw [HS.out]; exact HR3.out, HB3.out⟩

def pairs_Sort.f (l0 : List S23) : Option (List S23) := if l0.length * 16 ≤ 140737488355328 then some (sortL l0) else none
theorem pairs_Sort.calls (A0 : Option Addr) (c0 : Nat) (l0 : List S23) (r : List S23) (w : World) (hr0 : Kd.C k23 w A0 l0.length l0) (hc0 : l0.length ≤ c0) (h : pairs_Sort.f l0 = some r) :
    Calls Try.prog 16 #[.slice A0 l0.length c0] w fun e w' => ∃ v0_ : Value, e = .returned v0_ ∧ Kd.R k23 23 w' w.heap.size (fun _ => True) v0_ r ∧ Below w.heap.size w w' := by
  unfold pairs_Sort.f at h
  by_cases hl : l0.length * 16 ≤ 140737488355328
  · rw [if_pos hl] at h
    obtain rfl := Option.some.inj h
    exact sort_calls l0.length A0 c0 l0 w rfl hr0 hc0 hl
  · rw [if_neg hl] at h
    cases h
end

end Go.Proofs.Ytnbncpnmdnhakaa.PPairsFits
