/- Sets of bytes as four numbers: what is in them, with one more, in two together; one set alone has just these bytes. For every set whose numbers are below 2^64; no condition. -/
import Derived.Test.YtongadhccpfpeaaCls
import Derived.Laws.Bits64
import Derived.IntWalk
namespace Go.Proofs.Ytongadhccpfpeaa.Base9
open Go Go.RowKit Go.Proofs.Ytongadhccpfpeaa.Base9
theorem bits_and_nat (a b : Nat) (ha : a < 18446744073709551616) (hb : b < 18446744073709551616) : bits .and .u64 (a : Int) (b : Int) = ((a &&& b : Nat) : Int) := by
  have hx : a &&& b < 2 ^ 64 := Nat.lt_of_le_of_lt Nat.and_le_left (by omega)
  have h1 : (BitVec.ofInt 64 (a : Int)).toNat = a := by
    rw [BitVec.ofInt_natCast, BitVec.toNat_ofNat]; exact Nat.mod_eq_of_lt (by omega)
  have h2 : (BitVec.ofInt 64 (b : Int)).toNat = b := by
    rw [BitVec.ofInt_natCast, BitVec.toNat_ofNat]; exact Nat.mod_eq_of_lt (by omega)
  show IntKind.u64.wrap ((BitVec.ofInt 64 (a : Int) &&& BitVec.ofInt 64 (b : Int)).toNat : Int) = _
  rw [BitVec.toNat_and, h1, h2, IntKind.wrap_u64]
  omega
theorem bits_or_nat (a b : Nat) (ha : a < 18446744073709551616) (hb : b < 18446744073709551616) : bits .or .u64 (a : Int) (b : Int) = ((a ||| b : Nat) : Int) ∧ a ||| b < 18446744073709551616 := by
  have hx : a ||| b < 2 ^ 64 := Nat.or_lt_two_pow (by omega) (by omega)
  have h1 : (BitVec.ofInt 64 (a : Int)).toNat = a := by
    rw [BitVec.ofInt_natCast, BitVec.toNat_ofNat]; exact Nat.mod_eq_of_lt (by omega)
  have h2 : (BitVec.ofInt 64 (b : Int)).toNat = b := by
    rw [BitVec.ofInt_natCast, BitVec.toNat_ofNat]; exact Nat.mod_eq_of_lt (by omega)
  refine ⟨?_, by omega⟩
  show IntKind.u64.wrap ((BitVec.ofInt 64 (a : Int) ||| BitVec.ofInt 64 (b : Int)).toNat : Int) = _
  rw [BitVec.toNat_or, h1, h2, IntKind.wrap_u64]
  omega
theorem bits_and_i64_127 (a : Nat) (ha : a < 9223372036854775808) : bits .and .i64 (a : Int) 127 = ((a % 128 : Nat) : Int) := by
  have h1 : (BitVec.ofInt 64 (a : Int)).toNat = a := by
    rw [BitVec.ofInt_natCast, BitVec.toNat_ofNat]; exact Nat.mod_eq_of_lt (by omega)
  have h2 : (BitVec.ofInt 64 127).toNat = 127 := by decide
  show IntKind.i64.wrap ((BitVec.ofInt 64 (a : Int) &&& BitVec.ofInt 64 127).toNat : Int) = _
  rw [BitVec.toNat_and, h1, h2, show (127 : Nat) = 2 ^ 7 - 1 from rfl, Nat.and_two_pow_sub_one_eq_mod]
  have : a % 2 ^ 7 < 128 := Nat.mod_lt _ (by decide)
  exact IntWalk.i64_in _ (by omega)
set_option linter.unusedVariables false
/-- a set whose numbers are such -/
def Wf (s : SS) : Prop := (0 ≤ s.a ∧ s.a < 18446744073709551616) ∧ (0 ≤ s.b ∧ s.b < 18446744073709551616) ∧ (0 ≤ s.c ∧ s.c < 18446744073709551616) ∧ (0 ≤ s.d ∧ s.d < 18446744073709551616)
theorem wf_get {s : SS} (h : Wf s) (i : Int) : 0 ≤ s.get i ∧ s.get i < 18446744073709551616 := by
  unfold SS.get
  split
  · exact h.1
  · split
    · exact h.2.1
    · split
      · exact h.2.2.1
      · exact h.2.2.2
theorem wf_set {s : SS} (h : Wf s) (i v : Int) (hv : 0 ≤ v ∧ v < 18446744073709551616) : Wf (s.set i v) := by
  unfold SS.set
  split
  · exact ⟨hv, h.2.1, h.2.2.1, h.2.2.2⟩
  · split
    · exact ⟨h.1, hv, h.2.2.1, h.2.2.2⟩
    · split
      · exact ⟨h.1, h.2.1, hv, h.2.2.2⟩
      · exact ⟨h.1, h.2.1, h.2.2.1, hv⟩
theorem get_set (s : SS) (i j v : Int) (hi : 0 ≤ i ∧ i < 4) (hj : 0 ≤ j ∧ j < 4) : (s.set i v).get j = if j = i then v else s.get j := by
  have h1 : i = 0 ∨ i = 1 ∨ i = 2 ∨ i = 3 := by omega
  have h2 : j = 0 ∨ j = 1 ∨ j = 2 ∨ j = 3 := by omega
  rcases h1 with rfl | rfl | rfl | rfl <;> rcases h2 with rfl | rfl | rfl | rfl <;> simp [SS.get, SS.set]
/-- is a byte in a set: that bit -/
theorem has_bit {s : SS} (h : Wf s) (x : Int) (h0 : 0 ≤ x) (h1 : x < 256) : hasS s x = (s.get (x / 64)).toNat.testBit (x % 64).toNat := by
  obtain ⟨g0, g1⟩ := wf_get h (x / 64)
  unfold hasS
  generalize s.get (x / 64) = g at *
  obtain ⟨n, rfl⟩ := Int.eq_ofNat_of_zero_le g0
  obtain ⟨k, hk⟩ := Int.eq_ofNat_of_zero_le (show 0 ≤ x % 64 by omega)
  rw [hk, Int.toNat_natCast, Int.toNat_natCast]
  have e : (n : Int) / 2 ^ k = ((n / 2 ^ k : Nat) : Int) := by
    rw [Int.natCast_ediv, Int.natCast_pow]; rfl
  have hlt : n / 2 ^ k < 18446744073709551616 := Nat.lt_of_le_of_lt (Nat.div_le_self _ _) (by omega)
  have := bits_and_nat (n / 2 ^ k) 1 hlt (by decide)
  rw [e]
  rw [show ((1 : Nat) : Int) = 1 from rfl] at this
  rw [this, Nat.testBit, Nat.shiftRight_eq_div_pow, Nat.and_comm]
  cases hb : (1 &&& n / 2 ^ k) with
  | zero => simp
  | succ m =>
    have : 1 &&& n / 2 ^ k ≤ 1 := Nat.and_le_left
    have hm : m = 0 := by omega
    subst hm; simp
theorem wf_zero : Wf zeroS := by unfold Wf zeroS; decide
theorem has_zero (x : Int) (h0 : 0 ≤ x) (h1 : x < 256) : hasS zeroS x = false := by
  rw [has_bit wf_zero x h0 h1]
  have : (SS.get zeroS (x / 64)) = 0 := by unfold SS.get zeroS; split <;> (try split) <;> (try split) <;> rfl
  rw [this]
  exact Nat.zero_testBit _
theorem pow_wrap (x : Int) (h0 : 0 ≤ x) : ∃ n : Nat, (x % 64).toNat = n ∧ n < 64 ∧ IntKind.u64.wrap (2 ^ (x % 64).toNat) = ((2 ^ n : Nat) : Int) ∧ 2 ^ n < 18446744073709551616 := by
  refine ⟨(x % 64).toNat, rfl, by omega, ?_, ?_⟩
  · have hl : 2 ^ (x % 64).toNat < 2 ^ 64 := Nat.pow_lt_pow_right (by decide) (by omega)
    rw [IntKind.wrap_u64]
    have e : (2 : Int) ^ (x % 64).toNat = ((2 ^ (x % 64).toNat : Nat) : Int) := by rw [Int.natCast_pow]; rfl
    rw [e]
    generalize 2 ^ (x % 64).toNat = m at hl ⊢
    omega
  · show 2 ^ (x % 64).toNat < 2 ^ 64
    exact Nat.pow_lt_pow_right (by decide) (by omega)
theorem wf_with {s : SS} (h : Wf s) (x : Int) (h0 : 0 ≤ x) (h1 : x < 256) : Wf (withS s x) := by
  obtain ⟨g0, g1⟩ := wf_get h (x / 64)
  obtain ⟨k, hk, hk2, hw, hp⟩ := pow_wrap x h0
  unfold withS
  refine wf_set h _ _ ?_
  rw [hw]
  obtain ⟨n, hn⟩ := Int.eq_ofNat_of_zero_le g0
  rw [hn] at g1 ⊢
  obtain ⟨e, hlt⟩ := bits_or_nat n (2 ^ k) (by omega) hp
  rw [e]
  omega
theorem has_with {s : SS} (h : Wf s) (x y : Int) (h0 : 0 ≤ x) (h1 : x < 256) (k0 : 0 ≤ y) (k1 : y < 256) : hasS (withS s x) y = (decide (y = x) || hasS s y) := by
  rw [has_bit (wf_with h x h0 h1) y k0 k1, has_bit h y k0 k1]
  obtain ⟨g0, g1⟩ := wf_get h (x / 64)
  obtain ⟨k, hk, hk2, hw, hp⟩ := pow_wrap x h0
  unfold withS
  rw [get_set s _ _ _ (by omega) (by omega), hw]
  by_cases hq : y / 64 = x / 64
  · rw [if_pos hq, hq]
    obtain ⟨n, hn⟩ := Int.eq_ofNat_of_zero_le g0
    rw [hn] at g1 ⊢
    obtain ⟨e, hlt⟩ := bits_or_nat n (2 ^ k) (by omega) hp
    rw [e, Int.toNat_natCast, Int.toNat_natCast, Nat.testBit_or, Nat.testBit_two_pow, Bool.or_comm]
    congr 1
    rw [decide_eq_decide]
    omega
  · rw [if_neg hq, decide_eq_false (show ¬ y = x from fun e => hq (by rw [e]))]
    rfl
theorem wf_union {s o : SS} (h : Wf s) (k : Wf o) : Wf (unionS s o) := by
  have f : ∀ a b : Int, 0 ≤ a ∧ a < 18446744073709551616 → 0 ≤ b ∧ b < 18446744073709551616 → 0 ≤ bits .or .u64 a b ∧ bits .or .u64 a b < 18446744073709551616 := by
    intro a b ha hb
    obtain ⟨n, rfl⟩ := Int.eq_ofNat_of_zero_le ha.1
    obtain ⟨m, rfl⟩ := Int.eq_ofNat_of_zero_le hb.1
    obtain ⟨e, hlt⟩ := bits_or_nat n m (by omega) (by omega)
    rw [e]; omega
  exact ⟨f _ _ h.1 k.1, f _ _ h.2.1 k.2.1, f _ _ h.2.2.1 k.2.2.1, f _ _ h.2.2.2 k.2.2.2⟩
theorem get_union (s o : SS) (j : Int) : (unionS s o).get j = bits .or .u64 (s.get j) (o.get j) := by
  unfold SS.get unionS
  split
  · rfl
  · split
    · rfl
    · split <;> rfl
theorem has_union {s o : SS} (h : Wf s) (k : Wf o) (y : Int) (k0 : 0 ≤ y) (k1 : y < 256) : hasS (unionS s o) y = (hasS s y || hasS o y) := by
  rw [has_bit (wf_union h k) y k0 k1, has_bit h y k0 k1, has_bit k y k0 k1, get_union]
  have ha := wf_get h (y / 64)
  have hb := wf_get k (y / 64)
  obtain ⟨n, hn⟩ := Int.eq_ofNat_of_zero_le ha.1
  obtain ⟨m, hm⟩ := Int.eq_ofNat_of_zero_le hb.1
  rw [hn] at ha
  rw [hm] at hb
  rw [hn, hm]
  obtain ⟨e, hlt⟩ := bits_or_nat n m (by omega) (by omega)
  rw [e, Int.toNat_natCast, Int.toNat_natCast, Int.toNat_natCast, Nat.testBit_or]
/-- One set alone has just these bytes. -/
theorem set_ext {s o : SS} (h : Wf s) (k : Wf o) (he : ∀ y : Int, 0 ≤ y → y < 256 → hasS s y = hasS o y) : s = o := by
  have hg : ∀ q : Int, 0 ≤ q → q < 4 → s.get q = o.get q := by
    intro q q0 q1
    have ha := wf_get h q
    have hb := wf_get k q
    have : (s.get q).toNat = (o.get q).toNat := by
      apply Nat.eq_of_testBit_eq
      intro i
      by_cases hi : i < 64
      · have e := he (64 * q + i) (by omega) (by omega)
        rw [has_bit h _ (by omega) (by omega), has_bit k _ (by omega) (by omega)] at e
        rw [show (64 * q + (i : Int)) / 64 = q by omega, show ((64 * q + (i : Int)) % 64).toNat = i by omega] at e
        exact e
      · have l1 : (s.get q).toNat < 2 ^ i := Nat.lt_of_lt_of_le (show (s.get q).toNat < 2 ^ 64 by omega) (Nat.pow_le_pow_right (by decide) (by omega))
        have l2 : (o.get q).toNat < 2 ^ i := Nat.lt_of_lt_of_le (show (o.get q).toNat < 2 ^ 64 by omega) (Nat.pow_le_pow_right (by decide) (by omega))
        rw [Nat.testBit_lt_two_pow l1, Nat.testBit_lt_two_pow l2]
    omega
  have a0 : s.a = o.a := hg 0 (by decide) (by decide)
  have a1 : s.b = o.b := hg 1 (by decide) (by decide)
  have a2 : s.c = o.c := hg 2 (by decide) (by decide)
  have a3 : s.d = o.d := hg 3 (by decide) (by decide)
  cases s; cases o
  dsimp only at a0 a1 a2 a3
  rw [a0, a1, a2, a3]
theorem of_spec (l : List Int) (hl : ∀ x ∈ l, 0 ≤ x ∧ x < 256) : Wf (ofS l) ∧ ∀ y : Int, 0 ≤ y → y < 256 → hasS (ofS l) y = decide (y ∈ l) := by
  have key : ∀ (l : List Int) (s : SS), Wf s → (∀ x ∈ l, 0 ≤ x ∧ x < 256) → Wf (l.foldl withS s) ∧ ∀ y : Int, 0 ≤ y → y < 256 → hasS (l.foldl withS s) y = (hasS s y || decide (y ∈ l)) := by
    intro l
    induction l with
    | nil => intro s hs _; exact ⟨hs, fun y _ _ => by simp⟩
    | cons x l ih =>
      intro s hs hx
      obtain ⟨x0, x1⟩ := hx x (by simp)
      obtain ⟨w, hw⟩ := ih (withS s x) (wf_with hs x x0 x1) (fun z hz => hx z (List.mem_cons_of_mem _ hz))
      refine ⟨w, fun y y0 y1 => ?_⟩
      show hasS (l.foldl withS (withS s x)) y = _
      rw [hw y y0 y1, has_with hs x y x0 x1 y0 y1]
      by_cases e : y = x
      · subst e; simp
      · simp [e]
  obtain ⟨w, hw⟩ := key l zeroS wf_zero hl
  exact ⟨w, fun y y0 y1 => by rw [show ofS l = l.foldl withS zeroS from rfl, hw y y0 y1, has_zero y y0 y1, Bool.false_or]⟩
theorem mem_list (s : SS) (y : Int) : y ∈ listS s ↔ (0 ≤ y ∧ y < 256) ∧ hasS s y = true := by
  unfold listS
  rw [List.mem_filter, List.mem_map]
  constructor
  · rintro ⟨⟨n, hn, rfl⟩, h⟩
    have := List.mem_range.mp hn
    exact ⟨⟨by omega, by omega⟩, h⟩
  · rintro ⟨⟨h0, h1⟩, h⟩
    exact ⟨⟨y.toNat, List.mem_range.mpr (by omega), by omega⟩, h⟩
theorem allS_spec (ls : List (List Int)) (hb : ∀ l ∈ ls, ∀ x ∈ l, 0 ≤ x ∧ x < 256) : Wf (allS ls) ∧ ∀ y : Int, 0 ≤ y → y < 256 → hasS (allS ls) y = decide (∃ l ∈ ls, y ∈ l) := by
  have key : ∀ (ls : List (List Int)) (s : SS), Wf s → (∀ l ∈ ls, ∀ x ∈ l, 0 ≤ x ∧ x < 256) → Wf (ls.foldl (fun s l => unionS s (ofS l)) s) ∧ ∀ y : Int, 0 ≤ y → y < 256 → hasS (ls.foldl (fun s l => unionS s (ofS l)) s) y = (hasS s y || decide (∃ l ∈ ls, y ∈ l)) := by
    intro ls
    induction ls with
    | nil => intro s hs _; exact ⟨hs, fun y _ _ => by simp⟩
    | cons x ls ih =>
      intro s hs hx
      obtain ⟨w0, h0⟩ := of_spec x (hx x (by simp))
      obtain ⟨w, hw⟩ := ih (unionS s (ofS x)) (wf_union hs w0) (fun z hz => hx z (List.mem_cons_of_mem _ hz))
      refine ⟨w, fun y y0 y1 => ?_⟩
      rw [List.foldl_cons, hw y y0 y1, has_union hs w0 y y0 y1, h0 y y0 y1]
      simp [Bool.or_assoc]
  obtain ⟨w, hw⟩ := key ls zeroS wf_zero hb
  exact ⟨w, fun y y0 y1 => by rw [show allS ls = ls.foldl (fun s l => unionS s (ofS l)) zeroS from rfl, hw y y0 y1, has_zero y y0 y1, Bool.false_or]⟩
/-- does a byte stand in a text? -/
def mk (ls : List (List Int)) (n : Nat) : Bool := decide (∃ l ∈ ls, (n : Int) ∈ l)
theorem cntp_congr {p q : Nat → Bool} (h : ∀ n, n < 256 → p n = q n) (n : Nat) (hn : n ≤ 256) : cntp p n = cntp q n := by
  unfold cntp
  congr 1
  refine List.filter_congr (fun i hi => ?_)
  have := List.mem_range.mp hi
  exact h i (by omega)
theorem tbl_congr {p q : Nat → Bool} {cs : Array Value} (h : Tbl p cs) (he : ∀ n, n < 256 → p n = q n) : Tbl q cs := by
  refine ⟨h.size, h.one, by rw [h.cnt, cntp_congr he 256 (Nat.le_refl _)], fun b hb => ?_⟩
  rw [h.at_ b hb]
  unfold clsK
  rw [he b hb, cntp_congr he (b + 1) (by omega)]
/-- THE TABLE OF SOME TEXTS -/
theorem tbl_all (ls : List (List Int)) (hb : ∀ l ∈ ls, ∀ x ∈ l, 0 ≤ x ∧ x < 256) : Tbl (mk ls) (clsN (listS (allS ls)) (listS (allS ls)).length) :=
  tbl_congr (tbl_of _) (fun n hn => (allS_spec ls hb).2 n (by omega) (by omega))
end Go.Proofs.Ytongadhccpfpeaa.Base9
