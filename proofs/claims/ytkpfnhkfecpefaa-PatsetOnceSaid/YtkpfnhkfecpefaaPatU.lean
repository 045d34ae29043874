/- PatsetOnce: patterns are unlike each other, none is empty, and each one came. -/
import Derived.Test.YtkpfnhkfecpefaaPatO
namespace Go.Proofs.Ytkpfnhkfecpefaa.Pat
open Go Go.RowKit Go.Proofs Go.Proofs.YtkpfnhkfecpefaaW.PrintWords Go.Proofs.YtkpfnhkfecpefaaW.PrintMore Go.Proofs.YtkpfnhkfecpefaaW.PrintLast Go.Proofs.Ytkpfnhkfecpefaa.Ref Go.Proofs.Ytkpfnhkfecpefaa.Aid
set_option linter.unusedVariables false
set_option linter.unusedSimpArgs false
attribute [local go_sem] max2_int min2_int max_two min_two max_three min_three
/-- where a text comes first -/
def fI : List (List Int) → List Int → Nat
  | [], _ => 0
  | y :: L, x => if sk y = sk x then 0 else fI L x + 1
theorem fI_le : ∀ (L : List (List Int)) (x : List Int), fI L x ≤ L.length
  | [], x => Nat.le_refl _
  | y :: L, x => by
    unfold fI
    split
    · exact Nat.zero_le _
    · have := fI_le L x; rw [List.length_cons]; omega
theorem fI_lt : ∀ (L : List (List Int)) (x : List Int) (k : Nat) (h : k < L.length), k < fI L x → ¬ sk L[k] = sk x
  | [], x, k, h, _ => absurd h (Nat.not_lt_zero _)
  | y :: L, x, k, h, hk => by
    unfold fI at hk
    split at hk
    · exact absurd hk (Nat.not_lt_zero _)
    · rename_i hne
      cases k with
      | zero => exact hne
      | succ k => exact fI_lt L x k (by simpa using h) (by omega)
theorem fI_eq : ∀ (L : List (List Int)) (x : List Int) (h : fI L x < L.length), sk (L[fI L x]'h) = sk x
  | [], x, h => absurd h (Nat.not_lt_zero _)
  | y :: L, x, h => by
    by_cases he : sk y = sk x
    · have e : fI (y :: L) x = 0 := if_pos he
      simp only [e, List.getElem_cons_zero]
      exact he
    · have e : fI (y :: L) x = fI L x + 1 := if_neg he
      have h2 : fI L x < L.length := by rw [e, List.length_cons] at h; omega
      simp only [e, List.getElem_cons_succ]
      exact fI_eq L x h2
theorem fI_in : ∀ (L : List (List Int)) (x : List Int), inP L x = true → fI L x < L.length
  | [], x, h => by cases h
  | y :: L, x, h => by
    rw [in_cons] at h
    unfold fI
    rw [List.length_cons]
    split
    · omega
    · rename_i hne
      have : decide (sk x = sk y) = false := decide_eq_false (fun e => hne e.symm)
      rw [this, Bool.false_or] at h
      have := fI_in L x h
      omega
theorem fI_out : ∀ (L : List (List Int)) (x : List Int), inP L x = false → fI L x = L.length
  | [], x, h => rfl
  | y :: L, x, h => by
    rw [in_cons, Bool.or_eq_false_iff] at h
    unfold fI
    rw [List.length_cons, if_neg (fun e => absurd e.symm (of_decide_eq_false h.1)), fI_out L x h.2]
theorem fI_app : ∀ (L M : List (List Int)) (x : List Int), fI (L ++ M) x = if fI L x < L.length then fI L x else L.length + fI M x
  | [], M, x => by
    show fI M x = if (0 : Nat) < 0 then 0 else 0 + fI M x
    rw [if_neg (Nat.lt_irrefl _), Nat.zero_add]
  | y :: L, M, x => by
    rw [List.cons_append]
    by_cases he : sk y = sk x
    · have e1 : fI (y :: (L ++ M)) x = 0 := if_pos he
      have e2 : fI (y :: L) x = 0 := if_pos he
      rw [e1, e2, if_pos (by rw [List.length_cons]; omega)]
    · have e1 : fI (y :: (L ++ M)) x = fI (L ++ M) x + 1 := if_neg he
      have e2 : fI (y :: L) x = fI L x + 1 := if_neg he
      rw [e1, e2, fI_app L M x, List.length_cons]
      by_cases h : fI L x < L.length
      · rw [if_pos h, if_pos (by omega)]
      · rw [if_neg h, if_neg (by omega)]; omega
/-- patterns as they came -/
structure OnceP (L : List (List Int)) : Prop where
  lt : ∀ p ∈ (ofP L).l, fI L p < L.length
  up : (ofP L).l.Pairwise (fun p q => fI L p < fI L q)
theorem once_step (L : List (List Int)) (b : List Int) (h : OnceP L) : OnceP (L ++ [b]) := by
  have ha : ofP (L ++ [b]) = addP (ofP L) b := by unfold ofP; rw [List.foldl_append]; rfl
  have hold : ∀ p ∈ (ofP L).l, fI (L ++ [b]) p = fI L p := fun p hp => by rw [fI_app, if_pos (h.lt p hp)]
  have hup : (ofP L).l.Pairwise (fun p q => fI (L ++ [b]) p < fI (L ++ [b]) q) := by
    refine h.up.imp_of_mem (fun {p q} hp hq hlt => ?_)
    rw [hold p hp, hold q hq]
    exact hlt
  have hlt : ∀ p ∈ (ofP L).l, fI (L ++ [b]) p < (L ++ [b]).length := fun p hp => by
    rw [hold p hp, List.length_append]
    have := h.lt p hp
    omega
  by_cases hb : b.length = 0
  · have e : addP (ofP L) b = ⟨(ofP L).l, true⟩ := if_pos hb
    exact ⟨by rw [ha, e]; exact hlt, by rw [ha, e]; exact hup⟩
  · by_cases hi : inP (ofP L).l b = true
    · have e : addP (ofP L) b = ofP L := by unfold addP; rw [if_neg hb, if_pos hi]
      exact ⟨by rw [ha, e]; exact hlt, by rw [ha, e]; exact hup⟩
    · have e : addP (ofP L) b = ⟨(ofP L).l ++ [b], (ofP L).e⟩ := by unfold addP; rw [if_neg hb, if_neg hi]
      have hn : inP L b = false := by
        have h1 := has_of L b
        unfold hasP at h1
        rw [if_neg hb] at h1
        rw [← h1]
        simpa using hi
      have hfb : fI (L ++ [b]) b = L.length := by
        rw [fI_app, if_neg (by rw [fI_out L b hn]; omega)]
        have : fI [b] b = 0 := if_pos rfl
        rw [this]; rfl
      refine ⟨by
        rw [ha, e]
        intro p hp
        rcases List.mem_append.mp hp with hp | hp
        · exact hlt p hp
        · rw [List.mem_singleton] at hp
          subst hp
          rw [hfb, List.length_append]
          simp, by
        rw [ha, e]
        show ((ofP L).l ++ [b]).Pairwise _
        rw [List.pairwise_append]
        refine ⟨hup, List.pairwise_singleton _ _, fun p hp q hq => ?_⟩
        rw [List.mem_singleton] at hq
        subst hq
        rw [hfb, hold p hp]
        exact h.lt p hp⟩
theorem once_all (L : List (List Int)) : OnceP L := by
  suffices h : ∀ n, n ≤ L.length → OnceP (L.take n) by
    have := h L.length (Nat.le_refl _)
    rwa [List.take_length] at this
  intro n
  induction n with
  | zero => intro _; exact ⟨fun p hp => (by cases hp), List.Pairwise.nil⟩
  | succ n ih =>
    intro hn
    rw [List.take_succ_eq_append_getElem (by omega)]
    exact once_step _ _ (ih (by omega))
theorem once_get (L : List (List Int)) (s : PS) (hs : s = ofP L) (i : Nat) (hi : i < s.l.length) : fI L s.l[i] < L.length ∧ ∀ j (hj : j < i), fI L (s.l[j]'(Nat.lt_trans hj hi)) < fI L s.l[i] := by
  subst hs
  have h := once_all L
  exact ⟨h.lt _ (List.getElem_mem hi), fun j hj => List.pairwise_iff_getElem.mp h.up j i (by omega) hi hj⟩
theorem neq_sk {a b : List Int} (h : ¬ sk a = sk b) : ((strOfNums a).toList != (strOfNums b).toList) = true ∧ ((strOfNums a).toList == (strOfNums b).toList) = false := by
  rw [str_list, str_list]
  exact ⟨bne_iff_ne.mpr h, beq_eq_false_iff_ne.mpr h⟩
theorem eq_sk {a b : List Int} (h : sk a = sk b) : ((strOfNums a).toList != (strOfNums b).toList) = false ∧ ((strOfNums a).toList == (strOfNums b).toList) = true := by
  rw [str_list, str_list, h]
  exact ⟨bne_self_eq_false _, beq_self_eq_true _⟩
set_option maxHeartbeats 16000000 in
set_option maxRecDepth 100000 in
theorem once_calls (A0 : Option Addr) (c0 : Nat) (l0 : List (List Int)) (hl0 : l0.length * 24 ≤ 140737488351232) (w : World) (hr0 : Kd.C kB w A0 l0.length l0) :
    Calls Try.prog 5 #[.slice A0 l0.length c0] w fun e w' => e = .returned (.bool true) ∧ Below w.heap.size w w' := by
  have HR0 := Aside0.mk hr0
  have HL0 := Aside0.mk hl0
  have hu := Try.underlying27
  clear hr0 hl0
  go_enter Try.func5, Try.ntmps5
  go_wp2_with fail
  refine (awake_calls _).mono ?_
  rintro e w1 ⟨rfl, hb1⟩
  have HB1 := Aside0.mk hb1
  clear hb1
  go_wp2_with fail
  refine (texts_calls w1 A0 c0 l0 (Kd.C_below HR0.out HB1.out) HL0.out).mono ?_
  rintro e w2 ⟨v, rfl, At, nt, ct, r, rfl, hb2, ht2⟩
  have HB2 := Aside0.mk (Below.trans HB1.out (hb2.mono HB1.out.size))
  have HT2 := Aside0.mk ht2
  clear hb2 ht2
  cases r with
  | false =>
    go_wp2
    go_ret
    exact ⟨rfl, HB2.out⟩
  | true =>
  obtain ⟨t1, t2, t3, t4, t5⟩ := HT2.out rfl
  subst t3
  have HF0 := Aside0.mk (And.intro t1 t2)
  have HTC := Aside0.mk (And.intro t4 t5)
  clear HT2 t1 t2 t4 t5
  go_wp2_with fail
  refine (of_calls w2 A0 c0 l0 (Kd.C_below HR0.out HB2.out) (by have := HF0.out.1; omega) (fun p hp => Nat.le_trans (HF0.out.2 p hp) (by decide))).mono ?_
  rintro e w3 ⟨v3, rfl, hs3, hb3⟩
  have HS3' := Aside0.mk hs3.toC
  have HFA := Aside0.mk (of_facts l0 HF0.out.1 HF0.out.2)
  have HHO := Aside0.mk (fun b => has_of l0 b)
  obtain ⟨s, hs⟩ : ∃ s, s = ofP l0 := ⟨_, rfl⟩
  have HON := Aside0.mk (once_get l0 s hs)
  rw [← hs] at HS3' HFA HHO
  clear hs
  obtain ⟨A2, c2, M2, rfl, _, _, _, _⟩ := HS3'.out.lies
  have HA3 := Aside0.mk (below_alloc (Below.refl w3.heap.size w3) (.cells #[.slice A2 s.l.length c2, .map M2, .bool s.e] 27))
  have HX3 := Aside0.mk (blk_new w3 (.cells #[.slice A2 s.l.length c2, .map M2, .bool s.e] 27))
  have HS3 := Aside0.mk (HS3'.out.below HA3.out)
  have HQ3 := Aside0.mk (Below.trans hb3 (HA3.out.mono hb3.size))
  have HB3 := Aside0.mk (Below.trans HB2.out (HQ3.out.mono HB2.out.size))
  have HT3 := Aside0.mk (Kd.C_below HTC.out.2 HQ3.out)
  clear hs3 hb3 HS3' HA3 HQ3
  have k10 := (blk_cell HX3.out 0).trans (show _ = some (Value.slice A2 s.l.length c2) from rfl)
  have k11 := (blk_cell HX3.out 1).trans (show _ = some (Value.map M2) from rfl)
  have k12 := (blk_cell HX3.out 2).trans (show _ = some (Value.bool s.e) from rfl)
  go_wp2_with fail
  clear k10 k11 k12
  generalize w3.alloc (.cells #[.slice A2 s.l.length c2, .map M2, .bool s.e] 27) = w4 at HX3 HS3 HB3 HT3 ⊢
  generalize w3.heap.size = g1 at HX3 ⊢
  refine (patterns_calls HS3.out (by have := HFA.out.1; omega) (fun p hp => Nat.le_trans (HFA.out.2.2.2 p hp) (by decide))).mono ?_
  rintro e w5 ⟨v5, rfl, hr5, hb5⟩
  obtain ⟨A5, c5, hv5⟩ := Kd.R_slice hr5
  subst hv5
  have HP5 := Aside0.mk (Kd.R_reads' hr5)
  have HX5 := Aside0.mk (blk_below HX3.out hb5)
  have HS5 := Aside0.mk (HS3.out.below hb5)
  have HT5 := Aside0.mk (Kd.C_below HT3.out hb5)
  have HB5 := Aside0.mk (Below.trans HB3.out (hb5.mono HB3.out.size))
  clear hr5 hb5 HX3 HS3 HT3 HB3
  go_wp2
  go_loopw [8, 9] (fun v8 v9 wr => ∃ (i : Nat) (a : Int), v9 = .int .i64 (i : Int) ∧ v8 = .int .i64 a ∧ Aside0 (i ≤ s.l.length) ∧ Aside0 (∀ h : i < s.l.length, a < (fI l0 s.l[i] : Int)) ∧ Aside0 (Below w5.heap.size w5 wr)) (fun _ v _ => s.l.length - (intOf v).toNat)
  case atStart => exact ⟨0, -1, rfl, rfl, ⟨Nat.zero_le _⟩, ⟨fun h => by omega⟩, ⟨Below.refl _ _⟩⟩
  case round =>
    obtain ⟨i, a, rfl, rfl, HI, HA, HBW⟩ := hrel
    by_cases hlt : i < s.l.length
    · have e1 : decide ((i : Int) < (s.l.length : Int)) = true := decide_eq_true (by omega)
      have e2 : decide (i < s.l.length) = true := decide_eq_true hlt
      have HIL := Aside0.mk hlt
      obtain ⟨ad1, Ab1, cb1, rfl, p0, p1, p2⟩ := row_at (L := s.l) (Kd.C_below HP5.out.2.2 HBW.out) i hlt
      have HAI := Aside0.mk (HA.out hlt)
      have HOI := Aside0.mk (HON.out i hlt).1
      have HNX := Aside0.mk (show ∀ h : i + 1 < s.l.length, (fI l0 (s.l[i]'hlt) : Int) < (fI l0 s.l[i + 1] : Int) from fun h => by have := (HON.out (i + 1) h).2 i (Nat.lt_succ_self i); omega)
      have HPO := Aside0.mk (HFA.out.2.2.1 _ (List.getElem_mem hlt))
      generalize (s.l[i]'hlt) = x at p0 p1 p2 HAI HOI HNX HPO
      have z0 : 0 ≤ (i : Int) := by omega
      have z1 : (i : Int) < (s.l.length : Int) := by omega
      have hw2 : wrap64 ((i : Int) + 1) = ((i + 1 : Nat) : Int) := wr_big (by omega) (by have := HFA.out.1; have := HIL.out; omega)
      have d1 : ((x.length : Int) == 0) = false := beq_eq_false_iff_ne.mpr (by have := HPO.out; omega)
      have d2 : (x.length == 0) = false := beq_eq_false_iff_ne.mpr (by have := HPO.out; omega)
      have HPC := Aside0.mk (And.intro p0 p2)
      clear hlt p1 p2
      go_wp2
      go_loopw [10] (fun v10 wk => ∃ (k : Nat), v10 = .int .i64 (k : Int) ∧ Aside0 (k ≤ fI l0 x) ∧ Aside0 (Below wr.heap.size wr wk)) (fun v _ => l0.length - (intOf v).toNat)
      case atStart => exact ⟨0, rfl, ⟨Nat.zero_le _⟩, ⟨Below.refl _ _⟩⟩
      case round =>
        obtain ⟨k, rfl, HK, HBK⟩ := hrel
        have hklt : k < l0.length := Nat.lt_of_le_of_lt HK.out HOI.out
        have e3 : decide ((k : Int) < (l0.length : Int)) = true := decide_eq_true (by omega)
        have e4 : decide (k < l0.length) = true := decide_eq_true hklt
        have HKL := Aside0.mk hklt
        have hp0 := Go.Proofs.YtkpfnhkfecpefaaW.PrintWords.cell_kept HPC.out.1 (Kept.of_below HBK.out (fun _ => False)) (fun h => h)
        have hp2 := Kd.C_below HPC.out.2 HBK.out
        obtain ⟨adt, rfl, r0⟩ := str_at (L := l0) (Kd.C_below HT5.out (Below.trans HBW.out (HBK.out.mono HBW.out.size))) rfl k hklt
        have s0 := fun m => Kd.C_string (P := Try.prog) (A := Ab1) (c := cb1) Try.underlying22 Try.underlying5 Try.underlying9 (Kd.C_drewN hp2 m)
        have y0 : 0 ≤ (k : Int) := by omega
        have y1 : (k : Int) < (l0.length : Int) := by omega
        have hw3 : wrap64 ((k : Int) + 1) = ((k + 1 : Nat) : Int) := wr_big (by omega) (by have := HF0.out.1; have := HKL.out; omega)
        by_cases hk : k < fI l0 x
        · obtain ⟨q1, q2⟩ := neq_sk (fI_lt l0 x k hklt hk)
          have HKK := Aside0.mk hk
          generalize strOfNums (l0[k]'hklt) = st at r0 q1 q2
          generalize strOfNums x = sx at s0 q1 q2
          clear hk hp2 hklt p0
          go_wp2
          go_quiet (fail)
          go_wp2
          go_roundw
          case rel => exact ⟨k + 1, by first | rfl | exact congrArg (Value.int .i64) hw3, HKK, ⟨pw_below_drewN HBK.out _⟩⟩
          case measure => exact ms_step HKL.out (by first | exact hw3 | simp)
        · have hke : k = fI l0 x := by have := HK.out; omega
          obtain ⟨q1, q2⟩ := eq_sk (show sk (l0[k]'hklt) = sk x by
            have h3 := fI_eq l0 x HOI.out
            simpa only [← hke] using h3)
          have g1' : decide ((k : Int) ≥ (l0.length : Int)) = false := decide_eq_false (by omega)
          have g2' : decide ((l0.length : Int) ≤ (k : Int)) = false := decide_eq_false (by omega)
          have g2n : decide (l0.length ≤ k) = false := decide_eq_false (by omega)
          have g3' : decide ((k : Int) ≤ a) = false := decide_eq_false (by have := HAI.out; omega)
          have HKE := Aside0.mk hke
          generalize strOfNums (l0[k]'hklt) = st at r0 q1 q2
          generalize strOfNums x = sx at s0 q1 q2
          clear hk hp2 hklt hke p0
          go_wp2
          go_quiet (fail)
          go_wp2
          go_roundw
          case rel => exact ⟨i + 1, (k : Int), by first | rfl | exact congrArg (Value.int .i64) hw2, rfl, HIL, ⟨fun h => by rw [HKE.out]; exact HNX.out h⟩, ⟨Below.trans HBW.out ((pw_below_drewN HBK.out _).mono HBW.out.size)⟩⟩
          case measure => exact ms_step HIL.out (by first | exact hw2 | simp)
    · have e1 : decide ((i : Int) < (s.l.length : Int)) = false := decide_eq_false (by omega)
      have e2 : decide (i < s.l.length) = false := decide_eq_false hlt
      have HX6 := Aside0.mk (blk_below HX5.out HBW.out)
      have HS6 := Aside0.mk (HS5.out.below HBW.out)
      have HB6 := Aside0.mk (Below.trans HB5.out (HBW.out.mono HB5.out.size))
      clear hlt
      go_wp2
      go_loopw [11] (fun v11 wk => ∃ (k : Nat), v11 = .int .i64 (k : Int) ∧ Aside0 (k ≤ l0.length) ∧ Aside0 (Below wr.heap.size wr wk)) (fun v _ => l0.length - (intOf v).toNat)
      case atStart => exact ⟨0, rfl, ⟨Nat.zero_le _⟩, ⟨Below.refl _ _⟩⟩
      case round =>
        obtain ⟨k, rfl, HK, HBK⟩ := hrel
        by_cases hk : k < l0.length
        · have e3 : decide ((k : Int) < (l0.length : Int)) = true := decide_eq_true (by omega)
          have e4 : decide (k < l0.length) = true := decide_eq_true hk
          have HKL := Aside0.mk hk
          have HBT := Aside0.mk (Below.trans HB6.out (HBK.out.mono HB6.out.size))
          obtain ⟨ad0, Ab0, cb0, rfl, p0, p1, p2⟩ := row_at (L := l0) (Kd.C_below HR0.out HBT.out) k hk
          have HHS := Aside0.mk (has_calls (HS6.out.below (Below.trans HBK.out (below_drew (Below.refl wr.heap.size wr) |>.mono HBK.out.size))) (l0[k]'hk) Ab0 (l0[k]'hk).length cb0 rfl (Kd.C_drew p2) (by have := HF0.out.2 _ (List.getElem_mem hk); omega))
          have HTR := Aside0.mk (show hasP s (l0[k]'hk) = true by
            rw [HHO.out]
            unfold inP
            exact decide_eq_true (List.mem_map_of_mem (List.getElem_mem hk)))
          rw [HTR.out] at HHS
          have HX7 := Aside0.mk (blk_below HX6.out HBK.out)
          have y0 : 0 ≤ (k : Int) := by omega
          have y1 : (k : Int) < (l0.length : Int) := by omega
          have hw3 : wrap64 ((k : Int) + 1) = ((k + 1 : Nat) : Int) := wr_big (by omega) (by have := HF0.out.1; have := HKL.out; omega)
          generalize (l0[k]'hk).length = m at p0 HHS
          have HPC := Aside0.mk p0
          clear hk p1 p2 HTR
          have k10 := (blk_cell HX7.out 0).trans (show _ = some (Value.slice A2 s.l.length c2) from rfl)
          have k11 := (blk_cell HX7.out 1).trans (show _ = some (Value.map M2) from rfl)
          have k12 := (blk_cell HX7.out 2).trans (show _ = some (Value.bool s.e) from rfl)
          go_wp2_with fail
          refine wp_region_held_drew (S := fun w' => w'.cell? ⟨g1, 0, none⟩ = some (Value.slice A2 s.l.length c2) ∧ w'.cell? ⟨g1, 1, none⟩ = some (Value.map M2) ∧ w'.cell? ⟨g1, 2, none⟩ = some (Value.bool s.e) ∧ w'.cell? (ad0.add k) = some (.slice Ab0 m cb0)) (by kernel_rfl) ⟨k10, k11, k12, p0⟩ (fun hHeld => ?_)
          refine wpAnyH_take (i := 0) (oi := { dst := some 72, op := Op.load 27 (Operand.tmp 6), type := 27, pos := "law.go:104", after := #[], guard := none }) (v := ?_) rfl (by kernel_rfl) (by kernel_rfl) (by kernel_rfl) (fun _ _ _ h => h) (Or.inl ⟨by rfl, ?_⟩) (by assumption) ?_
          rotate_left 1
          · intro w hSw
            (try dsimp only at hSw)
            go_simp
            all_goals try with_reducible rfl
          try simp only [Act.put, List.setIfInBounds_toArray, List.set_cons_zero, List.set_cons_succ]
          refine wpAnyH_take (i := 1) (oi := { dst := some 73, op := Op.move (Operand.tmp 0), type := 24, pos := "law.go:104", after := #[], guard := none }) (v := ?_) rfl (by kernel_rfl) (by kernel_rfl) (by kernel_rfl) (fun _ _ _ h => h) (Or.inl ⟨by rfl, ?_⟩) (by assumption) ?_
          rotate_left 1
          · intro w hSw
            (try dsimp only at hSw)
            go_simp
            all_goals try with_reducible rfl
          try simp only [Act.put, List.setIfInBounds_toArray, List.set_cons_zero, List.set_cons_succ]
          refine wpAnyH_take (i := 2) (oi := { dst := some 74, op := Op.move (Operand.tmp 11), type := 3, pos := "law.go:104", after := #[], guard := none }) (v := ?_) rfl (by kernel_rfl) (by kernel_rfl) (by kernel_rfl) (fun _ _ _ h => h) (Or.inl ⟨by rfl, ?_⟩) (by assumption) ?_
          rotate_left 1
          · intro w hSw
            (try dsimp only at hSw)
            go_simp
            all_goals try with_reducible rfl
          try simp only [Act.put, List.setIfInBounds_toArray, List.set_cons_zero, List.set_cons_succ]
          refine wpAnyH_take (i := 3) (oi := { dst := some 75, op := Op.indexAddr 24 (Operand.tmp 73) (Operand.tmp 74), type := 0, pos := "law.go:104", after := #[{ on := 1, ground := Ground.data }, { on := 2, ground := Ground.data }], guard := none }) (v := ?_) rfl (by kernel_rfl) (by kernel_rfl) (by kernel_rfl) (fun _ _ _ h => h) (Or.inl ⟨by rfl, ?_⟩) (by assumption) ?_
          rotate_left 1
          · intro w hSw
            (try dsimp only at hSw)
            go_simp
            all_goals try with_reducible rfl
          try simp only [Act.put, List.setIfInBounds_toArray, List.set_cons_zero, List.set_cons_succ]
          refine wpAnyH_take (i := 4) (oi := { dst := some 76, op := Op.load 22 (Operand.tmp 75), type := 22, pos := "law.go:104", after := #[{ on := 3, ground := Ground.data }], guard := none }) (v := ?_) rfl (by kernel_rfl) (by kernel_rfl) (by kernel_rfl) (fun _ _ _ h => h) (Or.inl ⟨by rfl, ?_⟩) (by assumption) ?_
          rotate_left 1
          · intro w hSw
            (try dsimp only at hSw)
            go_simp
            all_goals try with_reducible rfl
          try simp only [Act.put, List.setIfInBounds_toArray, List.set_cons_zero, List.set_cons_succ]
          refine wpAnyH_ready (rs := [5]) (by kernel_rfl) (by simp) ?_
          refine AllReadyH.cons (o := { dst := some 77, op := Op.call { callee := Callee.value (Operand.func 14), args := #[Operand.tmp 72, Operand.tmp 76], argTypes := #[27, 22] }, type := 4, pos := "law.go:104", after := #[{ on := 0, ground := Ground.data }, { on := 4, ground := Ground.data }], guard := none }) rfl (fun K hK => ?_) AllReadyH.nil
          clear hHeld
          go_simp
          refine HHS.out.mono ?_
          rintro e u1 ⟨rfl, hb⟩
          have HU1 := Aside0.mk (show Below wr.heap.size wr u1 from Below.trans (below_drew (Below.refl _ _)) hb)
          clear hb k10 k11 k12 p0
          have k10 := (blk_cell (blk_below HX7.out HU1.out) 0).trans (show _ = some (Value.slice A2 s.l.length c2) from rfl)
          have k11 := (blk_cell (blk_below HX7.out HU1.out) 1).trans (show _ = some (Value.map M2) from rfl)
          have k12 := (blk_cell (blk_below HX7.out HU1.out) 2).trans (show _ = some (Value.bool s.e) from rfl)
          have p0 := Go.Proofs.YtkpfnhkfecpefaaW.PrintWords.cell_kept HPC.out (Kept.of_below HU1.out (fun _ => False)) (fun h => h)
          refine hK.out _ _ ⟨k10, k11, k12, p0⟩ (fun hHeld => ?_)
          clear hK K
          try simp only [Act.put, List.setIfInBounds_toArray, List.set_cons_zero, List.set_cons_succ]
          refine wpAnyH_take (i := 6) (oi := { dst := some 78, op := Op.unOp UnOp.not 4 (Operand.tmp 77), type := 4, pos := "law.go:104", after := #[{ on := 5, ground := Ground.data }], guard := none }) (v := ?_) rfl (by kernel_rfl) (by kernel_rfl) (by kernel_rfl) (fun _ _ _ h => h) (Or.inl ⟨by rfl, ?_⟩) (by assumption) ?_
          rotate_left 1
          · intro w hSw
            (try dsimp only at hSw)
            go_simp
            all_goals try with_reducible rfl
          try simp only [Act.put, List.setIfInBounds_toArray, List.set_cons_zero, List.set_cons_succ]
          refine wpAnyH_done (by kernel_rfl) ?_ _
          go_wp2
          go_roundw
          case rel => exact ⟨k + 1, by first | rfl | exact congrArg (Value.int .i64) hw3, HKL, ⟨Below.trans HBK.out (HU1.out.mono HBK.out.size)⟩⟩
          case measure => exact ms_step HKL.out (by first | exact hw3 | simp)
        · have e3 : decide ((k : Int) < (l0.length : Int)) = false := decide_eq_false (by omega)
          have e4 : decide (k < l0.length) = false := decide_eq_false hk
          clear hk
          go_wp2
          go_ret
          exact ⟨rfl, Below.trans HB6.out (HBK.out.mono HB6.out.size)⟩
end Go.Proofs.Ytkpfnhkfecpefaa.Pat
