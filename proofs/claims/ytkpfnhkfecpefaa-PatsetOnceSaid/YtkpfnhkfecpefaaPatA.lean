/- A set of patterns: what it holds, and what its methods answer. -/
import Derived.Test.YtkpfnhkfecpefaaLinA
import Derived.Test.YtkpfnhkfecpefaaMapI
namespace Go.Proofs.Ytkpfnhkfecpefaa.Pat
open Go Go.RowKit Go.Proofs Go.Proofs.YtkpfnhkfecpefaaW.PrintWords Go.Proofs.YtkpfnhkfecpefaaW.PrintMore Go.Proofs.YtkpfnhkfecpefaaW.PrintLast Go.Proofs.Ytkpfnhkfecpefaa.Mp Go.Maps
set_option linter.unusedVariables false
set_option linter.unusedSimpArgs false
attribute [local go_sem] max2_int min2_int max_two min_two max_three min_three
abbrev kB : Kd (List Int) := Kd.slice 5 (Kd.int .u8)
theorem row_at {w : World} {A : Option Addr} {L : List (List Int)} (h : Kd.C kB w A L.length L) (i : Nat) (hi : i < L.length) : ∃ ad Ab cb, A = some ad ∧ w.cell? (ad.add i) = some (.slice Ab L[i].length cb) ∧ L[i].length ≤ cb ∧ Kd.C (Kd.int .u8) w Ab L[i].length L[i] := by
  obtain ⟨ad, e, hc⟩ := h.2.2 (by omega)
  obtain ⟨c, hs, hr, hcell⟩ := hc i L[i] (List.getElem?_eq_getElem hi)
  obtain ⟨Ab, cb, rfl, hl, hr⟩ := hr
  refine ⟨ad, Ab, cb, e, ?_, hl, hr⟩
  have := hcell 0 _ rfl
  simpa [kB, Kd.slice] using this
/-- bytes as they are told apart -/
def sk (b : List Int) : List UInt8 := b.map fun n => UInt8.ofNat n.toNat
theorem str_eq {a b : List Int} : strOfNums a = strOfNums b ↔ sk a = sk b := by
  constructor
  · intro h
    have := congrArg (fun x : ByteArray => x.data.toList) h
    exact this
  · intro h
    unfold strOfNums
    unfold sk at h
    rw [h]
def kb (b : List Int) : Lit := .string (sk b)
theorem key_b (b : List Int) (h : b.length ≤ maxLen) : keyOf Try.prog 9 (.string (strOfNums b)) = some (kb b) := WideMaps.keyOf_string_mk (P := Try.prog) Try.underlying9 (by rw [strOfNums_size]; exact h)
theorem strK : Keyed Try.prog 9 := string_keyed Try.underlying9
theorem zeroI (W : World) : (zeroValue 3).run Try.prog W = .ok (.int .i64 0) W := by kernel_rfl
theorem look_nil {key : Value} {kl : Lit} (hkey : keyOf Try.prog 9 key = some kl) (W : World) : (Instr.lookup 25 (.map none) key true).run Try.prog W = .ok (.tuple #[.int .i64 0, .bool false]) W := by
  have h1 := strK.check W true hkey
  rcases strK.find W hkey [] (by simp) with ⟨h2, _⟩ | ⟨j, e, _, h3, _⟩
  · simp [Instr.lookup, run_underlying (P := Try.prog) Try.underlying25, Sem.run_bind, h1, h2, zeroI, Result.andThen]
  · simp at h3
/-- patterns, and whether the empty one is there -/
structure PS where
  l : List (List Int)
  e : Bool
def inP (l : List (List Int)) (b : List Int) : Bool := decide (sk b ∈ l.map sk)
def addP (s : PS) (b : List Int) : PS := if b.length = 0 then ⟨s.l, true⟩ else if inP s.l b = true then s else ⟨s.l ++ [b], s.e⟩
def ofP (L : List (List Int)) : PS := L.foldl addP ⟨[], false⟩
theorem ofP_take (L : List (List Int)) (n : Nat) (h : n < L.length) : ofP (L.take (n + 1)) = addP (ofP (L.take n)) L[n] := by
  unfold ofP
  rw [List.take_succ_eq_append_getElem h, List.foldl_append]
  rfl
def hasP (s : PS) (b : List Int) : Bool := if b.length = 0 then s.e else inP s.l b
def mpo (M : Option Nat) : Value := .map M
/-- a set as it lies -/
structure SetC (w : World) (v : Value) (s : PS) : Prop where
  lies : ∃ A c M, v = .agg #[.slice A s.l.length c, .map M, .bool s.e] ∧ s.l.length ≤ c ∧ Kd.C kB w A s.l.length s.l ∧ (∀ bm, M = some bm → ∃ n f, MapI Try.prog 9 3 w bm n f ∧ ∀ b, (f (kb b)).isSome = inP s.l b) ∧ (M = none → s.l = [])
theorem SetC.below {w w' : World} {v : Value} {s : PS} (h : SetC w v s) (hb : Below w.heap.size w w') : SetC w' v s := by
  obtain ⟨A, c, M, e, hc, hC, hM, hN⟩ := h.lies
  exact ⟨A, c, M, e, hc, Kd.C_below hC hb, fun bm hbm => by obtain ⟨n, f, h1, h2⟩ := hM bm hbm; exact ⟨n, f, h1.below hb, h2⟩, hN⟩
theorem ms_step {n len : Nat} {x : Int} (h : n < len) (hx : x = ((n + 1 : Nat) : Int)) : len - (intOf (.int .i64 x)).toNat < len - (intOf (.int .i64 (n : Int))).toNat := by
  subst hx
  simp [intOf]
  omega
theorem wr_big {x : Int} (h0 : -9223372036854775808 ≤ x) (h1 : x ≤ 9223372036854775807) : wrap64 x = x := by unfold wrap64; omega
theorem C_len {α : Type} {d : Kd α} {w : World} {A : Option Addr} {n : Nat} {l : List α} (h : Kd.C d w A n l) : n ≤ 9223372036854775807 := h.2.1
/-- a set's box -/
abbrev bx (w : World) (A : Option Addr) (n c : Nat) (M : Option Nat) (e : Bool) : World := w.alloc (.cells #[.slice A n c, .map M, .bool e] 27)
theorem bx_below (w : World) (A : Option Addr) (n c : Nat) (M : Option Nat) (e : Bool) : Below w.heap.size w (bx w A n c M e) := below_alloc (Below.refl _ _) _
set_option maxHeartbeats 8000000 in
set_option maxRecDepth 100000 in
theorem empty_calls {w : World} {v : Value} {s : PS} (h : SetC w v s) :
    Calls Try.prog 20 #[v] w fun e w' => e = .returned (.bool s.e) ∧ Below w.heap.size w w' := by
  obtain ⟨A, c, M, rfl, hc, hC, hM, hN⟩ := h.lies
  clear h hC hM hN hc
  have HB := Aside0.mk (bx_below w A s.l.length c M s.e)
  go_enter Try.func20, Try.ntmps20
  go_wp2
  go_ret
  exact ⟨rfl, HB.out⟩
set_option maxHeartbeats 8000000 in
set_option maxRecDepth 100000 in
theorem has_calls {w : World} {v : Value} {s : PS} (h : SetC w v s) (b : List Int) (Ab : Option Addr) (n cb : Nat) (hn : n = b.length) (hb : Kd.C (Kd.int .u8) w Ab b.length b) (hl : b.length ≤ 1000000) :
    Calls Try.prog 14 #[v, .slice Ab n cb] w fun e w' => e = .returned (.bool (hasP s b)) ∧ Below w.heap.size w w' := by
  subst hn
  obtain ⟨A, c, M, rfl, hc, hC, hM, hN⟩ := h.lies
  clear h
  have HB := Aside0.mk (bx_below w A s.l.length c M s.e)
  have hbb := Kd.C_below hb HB.out
  have cv := Kd.C_string (P := Try.prog) (A := Ab) (c := cb) Try.underlying22 Try.underlying5 Try.underlying9 hbb
  have hu := Try.underlying27
  have hmx : b.length ≤ maxLen := by unfold maxLen; omega
  by_cases h0 : b.length = 0
  · have d1 : ((b.length : Int) == 0) = true := beq_iff_eq.mpr (by omega)
    have d2 : (b.length == 0) = true := beq_iff_eq.mpr h0
    rw [show hasP s b = s.e from if_pos h0]
    clear hM hN hC hb hbb cv hc hl hmx
    go_enter Try.func14, Try.ntmps14
    go_wp2
    go_ret
    exact ⟨rfl, HB.out⟩
  · have d1 : ((b.length : Int) == 0) = false := beq_eq_false_iff_ne.mpr (by omega)
    have d2 : (b.length == 0) = false := beq_eq_false_iff_ne.mpr h0
    rw [show hasP s b = inP s.l b from if_neg h0]
    cases M with
    | none =>
      have hl0 := hN rfl
      have hlk := look_nil (key_b b hmx)
      rw [show inP s.l b = false by rw [hl0]; rfl]
      generalize strOfNums b = str at cv hlk
      clear hM hN hC hb hbb hc hl hmx hl0
      go_enter Try.func14, Try.ntmps14
      go_wp2
      go_ret
      exact ⟨rfl, HB.out⟩
    | some bm =>
      obtain ⟨nm, f, hm, hf⟩ := hM bm rfl
      have hlk := (hm.below HB.out).look (t := 25) strK Try.underlying25 Try.underlying3 zeroI (key_b b hmx)
      rw [hf b] at hlk
      generalize inP s.l b = r at hlk ⊢
      generalize strOfNums b = str at cv hlk
      clear hM hN hC hb hbb hc hl hmx hm hf
      go_enter Try.func14, Try.ntmps14
      go_wp2
      go_ret
      exact ⟨rfl, HB.out⟩
def totN : List (List Int) → Nat
  | [] => 0
  | x :: L => x.length + totN L
theorem totN_app : ∀ a b : List (List Int), totN (a ++ b) = totN a + totN b
  | [], b => by simp [totN]
  | x :: a, b => by rw [List.cons_append, totN, totN, totN_app a b]; omega
theorem totN_take (L : List (List Int)) (n : Nat) (h : n < L.length) : totN (L.take (n + 1)) = totN (L.take n) + L[n].length := by
  rw [List.take_succ_eq_append_getElem h, totN_app]; rfl
theorem totN_take_le (L : List (List Int)) (n : Nat) : totN (L.take n) ≤ totN L := by
  have := totN_app (L.take n) (L.drop n)
  rw [List.take_append_drop] at this
  omega
set_option maxHeartbeats 8000000 in
set_option maxRecDepth 100000 in
theorem size_calls {w : World} {v : Value} {s : PS} (h : SetC w v s) (hl : totN s.l ≤ 1000000) :
    Calls Try.prog 21 #[v] w fun e w' => e = .returned (.int .i64 (totN s.l : Int)) ∧ Below w.heap.size w w' := by
  obtain ⟨A, c, M, rfl, hc, hC, hM, hN⟩ := h.lies
  generalize s.l = L at hc hC hl ⊢
  generalize s.e = e0
  have HB := Aside0.mk (bx_below w A L.length c M e0)
  have HC := Aside0.mk hC
  have HL := Aside0.mk hl
  have HLN := Aside0.mk (C_len hC)
  have hu := Try.underlying27
  clear h hC hM hN hc hl
  go_enter Try.func21, Try.ntmps21
  go_wp2
  go_loopw [3, 9] (fun v3 v9 wr => ∃ (i n : Nat), v9 = .int .i64 (i : Int) ∧ v3 = .int .i64 (n : Int) ∧ Aside0 (n = totN (L.take i)) ∧ Aside0 (i ≤ L.length) ∧ Aside0 (Below w.heap.size w wr)) (fun _ v _ => L.length - (intOf v).toNat)
  case atStart => exact ⟨0, 0, rfl, rfl, ⟨rfl⟩, ⟨Nat.zero_le _⟩, HB⟩
  case round =>
    obtain ⟨i, n, rfl, rfl, HN, HI, HBW⟩ := hrel
    by_cases hlt : i < L.length
    · have e1 : decide ((i : Int) < (L.length : Int)) = true := decide_eq_true (by omega)
      have e2 : decide (i < L.length) = true := decide_eq_true hlt
      have HIL := Aside0.mk hlt
      obtain ⟨ad, Ab, cb, rfl, hcell, hcb, hb⟩ := row_at (Kd.C_below HC.out HBW.out) i hlt
      have HT := Aside0.mk (totN_take L i hlt)
      have HT2 := Aside0.mk (totN_take_le L (i + 1))
      generalize hx : (L[i]'hlt).length = m at hcell HT
      have k0 : 0 ≤ (i : Int) := by omega
      have k1 : (i : Int) < (L.length : Int) := by omega
      have hw2 : wrap64 ((i : Int) + 1) = ((i + 1 : Nat) : Int) := wr_big (by omega) (by have := HLN.out; have := HIL.out; omega)
      have hw3 : wrap64 ((n : Int) + (m : Int)) = ((n + m : Nat) : Int) := wr_big (by omega) (by have := HT.out; have := HT2.out; have := HN.out; have := HL.out; omega)
      clear hlt hb hcb hx
      go_wp2
      go_roundw
      case rel => exact ⟨i + 1, n + m, by first | rfl | exact congrArg (Value.int .i64) hw2, by first | rfl | exact congrArg (Value.int .i64) hw3, ⟨by rw [HT.out, HN.out]⟩, HIL, HBW⟩
      case measure => exact ms_step HIL.out (by first | exact hw2 | simp)
    · have e1 : decide ((i : Int) < (L.length : Int)) = false := decide_eq_false (by omega)
      have e2 : decide (i < L.length) = false := decide_eq_false hlt
      have HE := Aside0.mk (show n = totN L by have := HN.out; rw [List.take_of_length_le (by omega)] at this; exact this)
      clear hlt
      go_wp2
      go_ret
      exact ⟨by rw [HE.out]; rfl, HBW.out⟩
/-- how long the shortest one is -/
def leastU (n : Nat) (b : List Int) : Nat := if n = 0 ∨ b.length < n then b.length else n
def leastN (L : List (List Int)) : Nat := L.foldl leastU 0
theorem leastN_take (L : List (List Int)) (n : Nat) (h : n < L.length) : leastN (L.take (n + 1)) = leastU (leastN (L.take n)) L[n] := by
  unfold leastN
  rw [List.take_succ_eq_append_getElem h, List.foldl_append]
  rfl
set_option maxHeartbeats 8000000 in
set_option maxRecDepth 100000 in
theorem least_calls {w : World} {v : Value} {s : PS} (h : SetC w v s) :
    Calls Try.prog 22 #[v] w fun e w' => e = .returned (.int .i64 (leastN s.l : Int)) ∧ Below w.heap.size w w' := by
  obtain ⟨A, c, M, rfl, hc, hC, hM, hN⟩ := h.lies
  generalize s.l = L at hc hC ⊢
  generalize s.e = e0
  have HB := Aside0.mk (bx_below w A L.length c M e0)
  have HC := Aside0.mk hC
  have HLN := Aside0.mk (C_len hC)
  have hu := Try.underlying27
  clear h hC hM hN hc
  go_enter Try.func22, Try.ntmps22
  go_wp2
  go_loopw [3, 9] (fun v3 v9 wr => ∃ (i n : Nat), v9 = .int .i64 (i : Int) ∧ v3 = .int .i64 (n : Int) ∧ Aside0 (n = leastN (L.take i)) ∧ Aside0 (i ≤ L.length) ∧ Aside0 (Below w.heap.size w wr)) (fun _ v _ => L.length - (intOf v).toNat)
  case atStart => exact ⟨0, 0, rfl, rfl, ⟨rfl⟩, ⟨Nat.zero_le _⟩, HB⟩
  case round =>
    obtain ⟨i, n, rfl, rfl, HN, HI, HBW⟩ := hrel
    by_cases hlt : i < L.length
    · have e1 : decide ((i : Int) < (L.length : Int)) = true := decide_eq_true (by omega)
      have e2 : decide (i < L.length) = true := decide_eq_true hlt
      have HIL := Aside0.mk hlt
      obtain ⟨ad, Ab, cb, rfl, hcell, hcb, hb⟩ := row_at (Kd.C_below HC.out HBW.out) i hlt
      have HT := Aside0.mk (leastN_take L i hlt)
      rw [← HN.out] at HT
      unfold leastU at HT
      generalize hx : (L[i]'hlt).length = m at hcell HT
      have k0 : 0 ≤ (i : Int) := by omega
      have k1 : (i : Int) < (L.length : Int) := by omega
      have hw2 : wrap64 ((i : Int) + 1) = ((i + 1 : Nat) : Int) := wr_big (by omega) (by have := HLN.out; have := HIL.out; omega)
      clear hlt hb hcb hx
      by_cases hz : n = 0
      · have HTE := Aside0.mk (show m = leastN (L.take (i + 1)) by rw [HT.out, if_pos (Or.inl hz)])
        have d1 : ((n : Int) == 0) = true := beq_iff_eq.mpr (by omega)
        have d2 : (n == 0) = true := beq_iff_eq.mpr hz
        clear hz
        go_wp2
        go_roundw
        case rel => exact ⟨i + 1, m, by first | rfl | exact congrArg (Value.int .i64) hw2, rfl, HTE, HIL, HBW⟩
        case measure => exact ms_step HIL.out (by first | exact hw2 | simp)
      · have d1 : ((n : Int) == 0) = false := beq_eq_false_iff_ne.mpr (by omega)
        have d2 : (n == 0) = false := beq_eq_false_iff_ne.mpr hz
        by_cases hm : m < n
        · have HTE := Aside0.mk (show m = leastN (L.take (i + 1)) by rw [HT.out, if_pos (Or.inr hm)])
          have d3 : decide ((m : Int) < (n : Int)) = true := decide_eq_true (by omega)
          have d4 : decide (m < n) = true := decide_eq_true hm
          clear hz hm
          go_wp2
          go_roundw
          case rel => exact ⟨i + 1, m, by first | rfl | exact congrArg (Value.int .i64) hw2, rfl, HTE, HIL, HBW⟩
          case measure => exact ms_step HIL.out (by first | exact hw2 | simp)
        · have HTE := Aside0.mk (show n = leastN (L.take (i + 1)) by rw [HT.out, if_neg (by omega)])
          have d3 : decide ((m : Int) < (n : Int)) = false := decide_eq_false (by omega)
          have d4 : decide (m < n) = false := decide_eq_false hm
          clear hz hm
          go_wp2
          go_roundw
          case rel => exact ⟨i + 1, n, by first | rfl | exact congrArg (Value.int .i64) hw2, rfl, HTE, HIL, HBW⟩
          case measure => exact ms_step HIL.out (by first | exact hw2 | simp)
    · have e1 : decide ((i : Int) < (L.length : Int)) = false := decide_eq_false (by omega)
      have e2 : decide (i < L.length) = false := decide_eq_false hlt
      have HE := Aside0.mk (show n = leastN L by have := HN.out; rw [List.take_of_length_le (by omega)] at this; exact this)
      clear hlt
      go_wp2
      go_ret
      exact ⟨by rw [HE.out]; rfl, HBW.out⟩
end Go.Proofs.Ytkpfnhkfecpefaa.Pat
