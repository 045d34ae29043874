/- Sets of bytes as four numbers: what is in them, with one more, in two together; one set alone has just these bytes. For every set whose numbers are below 2^64; no condition. -/
import Derived.Test.YtaegjpabkkoleaaPFoldRawx
import Derived.Test.YtaegjpabkkoleaaPop
import Derived.Laws.Bits64
import Derived.IntWalk
namespace Go.Proofs.Ytaegjpabkkoleaa.SetsFoldRaw
open Go Go.RowKit Go.Proofs.Ytaegjpabkkoleaa.PFoldRaw
theorem bits_and_nat (a b : Nat) (ha : a < 18446744073709551616) (hb : b < 18446744073709551616) : bits .and .u64 (a : Int) (b : Int) = ((a &&& b : Nat) : Int) := by
  have hx : a &&& b < 2 ^ 64 := Nat.lt_of_le_of_lt Nat.and_le_left (by omega)
  have h1 : (BitVec.ofInt 64 (a : Int)).toNat = a := by
    rw [BitVec.ofInt_natCast, BitVec.toNat_ofNat]; exact Nat.mod_eq_of_lt (by omega)
  have h2 : (BitVec.ofInt 64 (b : Int)).toNat = b := by
    rw [BitVec.ofInt_natCast, BitVec.toNat_ofNat]; exact Nat.mod_eq_of_lt (by omega)
  show IntKind.u64.wrap ((BitVec.ofInt 64 (a : Int) &&& BitVec.ofInt 64 (b : Int)).toNat : Int) = _
  rw [BitVec.toNat_and, h1, h2, IntKind.wrap_u64]
  omega
theorem bits_or_nat (a b : Nat) (ha : a < 18446744073709551616) (hb : b < 18446744073709551616) : bits .or .u64 (a : Int) (b : Int) = ((a ||| b : Nat) : Int) ∧ a ||| b < 18446744073709551616 := by
  have hx : a ||| b < 2 ^ 64 := Nat.or_lt_two_pow (by omega) (by omega)
  have h1 : (BitVec.ofInt 64 (a : Int)).toNat = a := by
    rw [BitVec.ofInt_natCast, BitVec.toNat_ofNat]; exact Nat.mod_eq_of_lt (by omega)
  have h2 : (BitVec.ofInt 64 (b : Int)).toNat = b := by
    rw [BitVec.ofInt_natCast, BitVec.toNat_ofNat]; exact Nat.mod_eq_of_lt (by omega)
  refine ⟨?_, by omega⟩
  show IntKind.u64.wrap ((BitVec.ofInt 64 (a : Int) ||| BitVec.ofInt 64 (b : Int)).toNat : Int) = _
  rw [BitVec.toNat_or, h1, h2, IntKind.wrap_u64]
  omega
theorem bits_and_i64_127 (a : Nat) (ha : a < 9223372036854775808) : bits .and .i64 (a : Int) 127 = ((a % 128 : Nat) : Int) := by
  have h1 : (BitVec.ofInt 64 (a : Int)).toNat = a := by
    rw [BitVec.ofInt_natCast, BitVec.toNat_ofNat]; exact Nat.mod_eq_of_lt (by omega)
  have h2 : (BitVec.ofInt 64 127).toNat = 127 := by decide
  show IntKind.i64.wrap ((BitVec.ofInt 64 (a : Int) &&& BitVec.ofInt 64 127).toNat : Int) = _
  rw [BitVec.toNat_and, h1, h2, show (127 : Nat) = 2 ^ 7 - 1 from rfl, Nat.and_two_pow_sub_one_eq_mod]
  have : a % 2 ^ 7 < 128 := Nat.mod_lt _ (by decide)
  exact IntWalk.i64_in _ (by omega)
set_option linter.unusedVariables false
/-- a set whose numbers are such -/
def Wf (s : SS) : Prop := (0 ≤ s.a ∧ s.a < 18446744073709551616) ∧ (0 ≤ s.b ∧ s.b < 18446744073709551616) ∧ (0 ≤ s.c ∧ s.c < 18446744073709551616) ∧ (0 ≤ s.d ∧ s.d < 18446744073709551616)
theorem wf_get {s : SS} (h : Wf s) (i : Int) : 0 ≤ s.get i ∧ s.get i < 18446744073709551616 := by
  unfold SS.get
  split
  · exact h.1
  · split
    · exact h.2.1
    · split
      · exact h.2.2.1
      · exact h.2.2.2
theorem wf_set {s : SS} (h : Wf s) (i v : Int) (hv : 0 ≤ v ∧ v < 18446744073709551616) : Wf (s.set i v) := by
  unfold SS.set
  split
  · exact ⟨hv, h.2.1, h.2.2.1, h.2.2.2⟩
  · split
    · exact ⟨h.1, hv, h.2.2.1, h.2.2.2⟩
    · split
      · exact ⟨h.1, h.2.1, hv, h.2.2.2⟩
      · exact ⟨h.1, h.2.1, h.2.2.1, hv⟩
theorem get_set (s : SS) (i j v : Int) (hi : 0 ≤ i ∧ i < 4) (hj : 0 ≤ j ∧ j < 4) : (s.set i v).get j = if j = i then v else s.get j := by
  have h1 : i = 0 ∨ i = 1 ∨ i = 2 ∨ i = 3 := by omega
  have h2 : j = 0 ∨ j = 1 ∨ j = 2 ∨ j = 3 := by omega
  rcases h1 with rfl | rfl | rfl | rfl <;> rcases h2 with rfl | rfl | rfl | rfl <;> simp [SS.get, SS.set]
/-- is a byte in a set: that bit -/
theorem has_bit {s : SS} (h : Wf s) (x : Int) (h0 : 0 ≤ x) (h1 : x < 256) : hasS s x = (s.get (x / 64)).toNat.testBit (x % 64).toNat := by
  obtain ⟨g0, g1⟩ := wf_get h (x / 64)
  unfold hasS
  generalize s.get (x / 64) = g at *
  obtain ⟨n, rfl⟩ := Int.eq_ofNat_of_zero_le g0
  obtain ⟨k, hk⟩ := Int.eq_ofNat_of_zero_le (show 0 ≤ x % 64 by omega)
  rw [hk, Int.toNat_natCast, Int.toNat_natCast]
  have e : (n : Int) / 2 ^ k = ((n / 2 ^ k : Nat) : Int) := by
    rw [Int.natCast_ediv, Int.natCast_pow]; rfl
  have hlt : n / 2 ^ k < 18446744073709551616 := Nat.lt_of_le_of_lt (Nat.div_le_self _ _) (by omega)
  have := bits_and_nat (n / 2 ^ k) 1 hlt (by decide)
  rw [e]
  rw [show ((1 : Nat) : Int) = 1 from rfl] at this
  rw [this, Nat.testBit, Nat.shiftRight_eq_div_pow, Nat.and_comm]
  cases hb : (1 &&& n / 2 ^ k) with
  | zero => simp
  | succ m =>
    have : 1 &&& n / 2 ^ k ≤ 1 := Nat.and_le_left
    have hm : m = 0 := by omega
    subst hm; simp
theorem wf_zero : Wf zeroS := by unfold Wf zeroS; decide
theorem has_zero (x : Int) (h0 : 0 ≤ x) (h1 : x < 256) : hasS zeroS x = false := by
  rw [has_bit wf_zero x h0 h1]
  have : (SS.get zeroS (x / 64)) = 0 := by unfold SS.get zeroS; split <;> (try split) <;> (try split) <;> rfl
  rw [this]
  exact Nat.zero_testBit _
theorem pow_wrap (x : Int) (h0 : 0 ≤ x) : ∃ n : Nat, (x % 64).toNat = n ∧ n < 64 ∧ IntKind.u64.wrap (2 ^ (x % 64).toNat) = ((2 ^ n : Nat) : Int) ∧ 2 ^ n < 18446744073709551616 := by
  refine ⟨(x % 64).toNat, rfl, by omega, ?_, ?_⟩
  · have hl : 2 ^ (x % 64).toNat < 2 ^ 64 := Nat.pow_lt_pow_right (by decide) (by omega)
    rw [IntKind.wrap_u64]
    have e : (2 : Int) ^ (x % 64).toNat = ((2 ^ (x % 64).toNat : Nat) : Int) := by rw [Int.natCast_pow]; rfl
    rw [e]
    generalize 2 ^ (x % 64).toNat = m at hl ⊢
    omega
  · show 2 ^ (x % 64).toNat < 2 ^ 64
    exact Nat.pow_lt_pow_right (by decide) (by omega)
theorem wf_with {s : SS} (h : Wf s) (x : Int) (h0 : 0 ≤ x) (h1 : x < 256) : Wf (withS s x) := by
  obtain ⟨g0, g1⟩ := wf_get h (x / 64)
  obtain ⟨k, hk, hk2, hw, hp⟩ := pow_wrap x h0
  unfold withS
  refine wf_set h _ _ ?_
  rw [hw]
  obtain ⟨n, hn⟩ := Int.eq_ofNat_of_zero_le g0
  rw [hn] at g1 ⊢
  obtain ⟨e, hlt⟩ := bits_or_nat n (2 ^ k) (by omega) hp
  rw [e]
  omega
theorem has_with {s : SS} (h : Wf s) (x y : Int) (h0 : 0 ≤ x) (h1 : x < 256) (k0 : 0 ≤ y) (k1 : y < 256) : hasS (withS s x) y = (decide (y = x) || hasS s y) := by
  rw [has_bit (wf_with h x h0 h1) y k0 k1, has_bit h y k0 k1]
  obtain ⟨g0, g1⟩ := wf_get h (x / 64)
  obtain ⟨k, hk, hk2, hw, hp⟩ := pow_wrap x h0
  unfold withS
  rw [get_set s _ _ _ (by omega) (by omega), hw]
  by_cases hq : y / 64 = x / 64
  · rw [if_pos hq, hq]
    obtain ⟨n, hn⟩ := Int.eq_ofNat_of_zero_le g0
    rw [hn] at g1 ⊢
    obtain ⟨e, hlt⟩ := bits_or_nat n (2 ^ k) (by omega) hp
    rw [e, Int.toNat_natCast, Int.toNat_natCast, Nat.testBit_or, Nat.testBit_two_pow, Bool.or_comm]
    congr 1
    rw [decide_eq_decide]
    omega
  · rw [if_neg hq, decide_eq_false (show ¬ y = x from fun e => hq (by rw [e]))]
    rfl
theorem wf_union {s o : SS} (h : Wf s) (k : Wf o) : Wf (unionS s o) := by
  have f : ∀ a b : Int, 0 ≤ a ∧ a < 18446744073709551616 → 0 ≤ b ∧ b < 18446744073709551616 → 0 ≤ bits .or .u64 a b ∧ bits .or .u64 a b < 18446744073709551616 := by
    intro a b ha hb
    obtain ⟨n, rfl⟩ := Int.eq_ofNat_of_zero_le ha.1
    obtain ⟨m, rfl⟩ := Int.eq_ofNat_of_zero_le hb.1
    obtain ⟨e, hlt⟩ := bits_or_nat n m (by omega) (by omega)
    rw [e]; omega
  exact ⟨f _ _ h.1 k.1, f _ _ h.2.1 k.2.1, f _ _ h.2.2.1 k.2.2.1, f _ _ h.2.2.2 k.2.2.2⟩
theorem get_union (s o : SS) (j : Int) : (unionS s o).get j = bits .or .u64 (s.get j) (o.get j) := by
  unfold SS.get unionS
  split
  · rfl
  · split
    · rfl
    · split <;> rfl
theorem has_union {s o : SS} (h : Wf s) (k : Wf o) (y : Int) (k0 : 0 ≤ y) (k1 : y < 256) : hasS (unionS s o) y = (hasS s y || hasS o y) := by
  rw [has_bit (wf_union h k) y k0 k1, has_bit h y k0 k1, has_bit k y k0 k1, get_union]
  have ha := wf_get h (y / 64)
  have hb := wf_get k (y / 64)
  obtain ⟨n, hn⟩ := Int.eq_ofNat_of_zero_le ha.1
  obtain ⟨m, hm⟩ := Int.eq_ofNat_of_zero_le hb.1
  rw [hn] at ha
  rw [hm] at hb
  rw [hn, hm]
  obtain ⟨e, hlt⟩ := bits_or_nat n m (by omega) (by omega)
  rw [e, Int.toNat_natCast, Int.toNat_natCast, Int.toNat_natCast, Nat.testBit_or]
/-- One set alone has just these bytes. -/
theorem set_ext {s o : SS} (h : Wf s) (k : Wf o) (he : ∀ y : Int, 0 ≤ y → y < 256 → hasS s y = hasS o y) : s = o := by
  have hg : ∀ q : Int, 0 ≤ q → q < 4 → s.get q = o.get q := by
    intro q q0 q1
    have ha := wf_get h q
    have hb := wf_get k q
    have : (s.get q).toNat = (o.get q).toNat := by
      apply Nat.eq_of_testBit_eq
      intro i
      by_cases hi : i < 64
      · have e := he (64 * q + i) (by omega) (by omega)
        rw [has_bit h _ (by omega) (by omega), has_bit k _ (by omega) (by omega)] at e
        rw [show (64 * q + (i : Int)) / 64 = q by omega, show ((64 * q + (i : Int)) % 64).toNat = i by omega] at e
        exact e
      · have l1 : (s.get q).toNat < 2 ^ i := Nat.lt_of_lt_of_le (show (s.get q).toNat < 2 ^ 64 by omega) (Nat.pow_le_pow_right (by decide) (by omega))
        have l2 : (o.get q).toNat < 2 ^ i := Nat.lt_of_lt_of_le (show (o.get q).toNat < 2 ^ 64 by omega) (Nat.pow_le_pow_right (by decide) (by omega))
        rw [Nat.testBit_lt_two_pow l1, Nat.testBit_lt_two_pow l2]
    omega
  have a0 : s.a = o.a := hg 0 (by decide) (by decide)
  have a1 : s.b = o.b := hg 1 (by decide) (by decide)
  have a2 : s.c = o.c := hg 2 (by decide) (by decide)
  have a3 : s.d = o.d := hg 3 (by decide) (by decide)
  cases s; cases o
  dsimp only at a0 a1 a2 a3
  rw [a0, a1, a2, a3]
theorem of_spec (l : List Int) (hl : ∀ x ∈ l, 0 ≤ x ∧ x < 256) : Wf (ofS l) ∧ ∀ y : Int, 0 ≤ y → y < 256 → hasS (ofS l) y = decide (y ∈ l) := by
  have key : ∀ (l : List Int) (s : SS), Wf s → (∀ x ∈ l, 0 ≤ x ∧ x < 256) → Wf (l.foldl withS s) ∧ ∀ y : Int, 0 ≤ y → y < 256 → hasS (l.foldl withS s) y = (hasS s y || decide (y ∈ l)) := by
    intro l
    induction l with
    | nil => intro s hs _; exact ⟨hs, fun y _ _ => by simp⟩
    | cons x l ih =>
      intro s hs hx
      obtain ⟨x0, x1⟩ := hx x (by simp)
      obtain ⟨w, hw⟩ := ih (withS s x) (wf_with hs x x0 x1) (fun z hz => hx z (List.mem_cons_of_mem _ hz))
      refine ⟨w, fun y y0 y1 => ?_⟩
      show hasS (l.foldl withS (withS s x)) y = _
      rw [hw y y0 y1, has_with hs x y x0 x1 y0 y1]
      by_cases e : y = x
      · subst e; simp
      · simp [e]
  obtain ⟨w, hw⟩ := key l zeroS wf_zero hl
  exact ⟨w, fun y y0 y1 => by rw [show ofS l = l.foldl withS zeroS from rfl, hw y y0 y1, has_zero y y0 y1, Bool.false_or]⟩
open Go.Proofs.Ytaegjpabkkoleaa.Pop Go.Proofs.YtaegjpabkkoleaaW.PrintWords
theorem pop_nat (n : Nat) (h : n < 18446744073709551616) : bits_OnesCount64.f (n : Int) = some ((cnt 64 n : Nat) : Int) := by
  have w : ∀ a b : Nat, a + b < 18446744073709551616 → IntKind.u64.wrap ((a : Int) + (b : Int)) = ((a + b : Nat) : Int) := by
    intro a b hab; rw [IntKind.wrap_u64]; omega
  have d2 : ∀ a : Nat, ((a : Int) / 2) = ((a / 2 : Nat) : Int) := fun a => by omega
  have d4 : ∀ a : Nat, ((a : Int) / 4) = ((a / 4 : Nat) : Int) := fun a => by omega
  have d16 : ∀ a : Nat, ((a : Int) / 16) = ((a / 16 : Nat) : Int) := fun a => by omega
  have d256 : ∀ a : Nat, ((a : Int) / 256) = ((a / 256 : Nat) : Int) := fun a => by omega
  have d65 : ∀ a : Nat, ((a : Int) / 65536) = ((a / 65536 : Nat) : Int) := fun a => by omega
  have d42 : ∀ a : Nat, ((a : Int) / 4294967296) = ((a / 4294967296 : Nat) : Int) := fun a => by omega
  have A : ∀ a m : Nat, a < 18446744073709551616 → m < 18446744073709551616 → bits .and .u64 (a : Int) (m : Int) = ((a &&& m : Nat) : Int) := bits_and_nat
  have hs := steps n h
  obtain ⟨y1, y2, y3, h1, h2, h3, h4, b0, b1, b2, b3⟩ := sums n
  have l1 : (n / 2) &&& 6148914691236517205 ≤ 6148914691236517205 := Nat.and_le_right
  have l2 : n &&& 6148914691236517205 ≤ 6148914691236517205 := Nat.and_le_right
  obtain ⟨x1, hx1⟩ : ∃ x1, x1 = ((n / 2) &&& 6148914691236517205) + (n &&& 6148914691236517205) := ⟨_, rfl⟩
  have l3 : (x1 / 4) &&& 3689348814741910323 ≤ 3689348814741910323 := Nat.and_le_right
  have l4 : x1 &&& 3689348814741910323 ≤ 3689348814741910323 := Nat.and_le_right
  obtain ⟨x2, hx2⟩ : ∃ x2, x2 = ((x1 / 4) &&& 3689348814741910323) + (x1 &&& 3689348814741910323) := ⟨_, rfl⟩
  have hs' : ((x2 / 16 + x2) &&& 1085102592571150095) = each pop8 8 n := by rw [hx2, hx1]; exact hs
  have E1 : IntKind.u64.wrap (bits .and .u64 ((n : Int) / 2) 6148914691236517205 + bits .and .u64 (n : Int) 6148914691236517205) = (x1 : Int) := by
    have a1 := A (n / 2) 6148914691236517205 (by omega) (by decide)
    have a2 := A n 6148914691236517205 h (by decide)
    rw [show ((6148914691236517205 : Nat) : Int) = 6148914691236517205 from rfl] at a1 a2
    rw [d2, a1, a2, w _ _ (by omega), hx1]
  have E2 : IntKind.u64.wrap (bits .and .u64 ((x1 : Int) / 4) 3689348814741910323 + bits .and .u64 (x1 : Int) 3689348814741910323) = (x2 : Int) := by
    have a1 := A (x1 / 4) 3689348814741910323 (by omega) (by decide)
    have a2 := A x1 3689348814741910323 (by omega) (by decide)
    rw [show ((3689348814741910323 : Nat) : Int) = 3689348814741910323 from rfl] at a1 a2
    rw [d4, a1, a2, w _ _ (by omega), hx2]
  have E3 : bits .and .u64 (IntKind.u64.wrap ((x2 : Int) / 16 + (x2 : Int))) 1085102592571150095 = ((each pop8 8 n : Nat) : Int) := by
    have a1 := A (x2 / 16 + x2) 1085102592571150095 (by omega) (by decide)
    rw [show ((1085102592571150095 : Nat) : Int) = 1085102592571150095 from rfl] at a1
    rw [d16, w _ _ (by omega), a1, hs']
  have E4 : IntKind.u64.wrap (((each pop8 8 n : Nat) : Int) + ((each pop8 8 n : Nat) : Int) / 256) = (y1 : Int) := by rw [d256, w _ _ (by omega), h1, Nat.add_comm]
  have E5 : IntKind.u64.wrap ((y1 : Int) + (y1 : Int) / 65536) = (y2 : Int) := by rw [d65, w _ _ (by omega), h2, Nat.add_comm]
  have E6 : IntKind.u64.wrap ((y2 : Int) + (y2 : Int) / 4294967296) = (y3 : Int) := by rw [d42, w _ _ (by omega), h3, Nat.add_comm]
  unfold bits_OnesCount64.f
  rw [E1, E2, E3, E4, E5, E6]
  have ew : wrap64 (y3 : Int) = (y3 : Int) := by unfold wrap64; omega
  rw [ew, bits_and_i64_127 y3 b3, h4, popN_cnt]
theorem pop_cnt (x : Int) (h0 : 0 ≤ x) (h1 : x < 18446744073709551616) : popI x = ((cnt 64 x.toNat : Nat) : Int) := by
  obtain ⟨n, rfl⟩ := Int.eq_ofNat_of_zero_le h0
  have h := pop_nat n (by omega)
  rw [pop_f] at h
  rw [Int.toNat_natCast]
  exact Option.some.inj h
theorem cnt_le (n x : Nat) : cnt n x ≤ n := by
  unfold cnt
  refine Nat.le_trans (List.length_filter_le _ _) ?_
  simp
theorem len_cnt {s : SS} (h : Wf s) : lenS s = ((cnt 64 s.a.toNat + cnt 64 s.b.toNat + cnt 64 s.c.toNat + cnt 64 s.d.toNat : Nat) : Int) := by
  have ea := pop_cnt s.a h.1.1 h.1.2
  have eb := pop_cnt s.b h.2.1.1 h.2.1.2
  have ec := pop_cnt s.c h.2.2.1.1 h.2.2.1.2
  have ed := pop_cnt s.d h.2.2.2.1 h.2.2.2.2
  have la := cnt_le 64 s.a.toNat
  have lb := cnt_le 64 s.b.toNat
  have lc := cnt_le 64 s.c.toNat
  have ld := cnt_le 64 s.d.toNat
  have g0 : s.get ((0 : Nat) : Int) = s.a := rfl
  have g1 : s.get ((1 : Nat) : Int) = s.b := rfl
  have g2 : s.get ((2 : Nat) : Int) = s.c := rfl
  have g3 : s.get ((3 : Nat) : Int) = s.d := rfl
  unfold lenS
  rw [lenUp, lenUp, lenUp, lenUp, lenUp, g0, g1, g2, g3, ea, eb, ec, ed]
  clear ea eb ec ed g0 g1 g2 g3
  generalize cnt 64 s.a.toNat = p at *
  generalize cnt 64 s.b.toNat = q at *
  generalize cnt 64 s.c.toNat = r at *
  generalize cnt 64 s.d.toNat = t at *
  have w : ∀ x : Int, 0 ≤ x → x ≤ 1000 → wrap64 x = x := fun x h0 h1 => by unfold wrap64; omega
  rw [w (0 + (p : Int)) (by omega) (by omega), w (0 + (p : Int) + (q : Int)) (by omega) (by omega), w (0 + (p : Int) + (q : Int) + (r : Int)) (by omega) (by omega), w _ (by omega) (by omega)]
  omega
theorem list_cnt {s : SS} (h : Wf s) : (listS s).length = cnt 64 s.a.toNat + cnt 64 s.b.toNat + cnt 64 s.c.toNat + cnt 64 s.d.toNat := by
  have hq : ∀ (q : Nat) (g : Int), q < 4 → s.get (q : Int) = g → ((List.map (fun i => 64 * q + i) (List.range 64)).filter (fun n : Nat => hasS s (n : Int))).length = cnt 64 g.toNat := by
    intro q g hq hg
    rw [List.filter_map, List.length_map]
    unfold cnt
    congr 1
    refine List.filter_congr (fun i hi => ?_)
    have hi := List.mem_range.mp hi
    show hasS s ((64 * q + i : Nat) : Int) = _
    rw [has_bit h _ (by omega) (by omega), show (((64 * q + i : Nat) : Int) / 64) = (q : Int) by omega, hg, show (((64 * q + i : Nat) : Int) % 64).toNat = i by omega]
  have e : (listS s).length = ((List.range 256).filter (fun n : Nat => hasS s (n : Int))).length := by
    unfold listS
    rw [List.filter_map, List.length_map]
    rfl
  have r : List.range 256 = List.map (fun i => 64 * 0 + i) (List.range 64) ++ List.map (fun i => 64 * 1 + i) (List.range 64) ++ List.map (fun i => 64 * 2 + i) (List.range 64) ++ List.map (fun i => 64 * 3 + i) (List.range 64) := by decide +kernel
  rw [e, r, List.filter_append, List.filter_append, List.filter_append, List.length_append, List.length_append, List.length_append, hq 0 s.a (by decide) rfl, hq 1 s.b (by decide) rfl, hq 2 s.c (by decide) rfl, hq 3 s.d (by decide) rfl]
/-- as many as are told -/
theorem len_list {s : SS} (h : Wf s) : lenS s = ((listS s).length : Int) := by rw [len_cnt h, list_cnt h]
theorem mem_list (s : SS) (y : Int) : y ∈ listS s ↔ (0 ≤ y ∧ y < 256) ∧ hasS s y = true := by
  unfold listS
  rw [List.mem_filter, List.mem_map]
  constructor
  · rintro ⟨⟨n, hn, rfl⟩, h⟩
    have := List.mem_range.mp hn
    exact ⟨⟨by omega, by omega⟩, h⟩
  · rintro ⟨⟨h0, h1⟩, h⟩
    exact ⟨⟨y.toNat, List.mem_range.mpr (by omega), by omega⟩, h⟩
end Go.Proofs.Ytaegjpabkkoleaa.SetsFoldRaw
