/- How many bits of a number are set, in the way of bits.OnesCount64. For every number below 2^64; no condition. -/
import Derived.Laws.Bits64
namespace Go.Proofs.Ytaegjpabkkoleaa.Pop
open Go
/-- how many bits of a byte are set -/
def pop8 (b : Nat) : Nat := ((List.range 8).filter (fun k => b.testBit k)).length
/-- how many bits of so many bytes are set -/
def popN : Nat → Nat → Nat
  | 0, _ => 0
  | n + 1, x => pop8 (x % 256) + popN n (x / 256)
/-- a byte said so many times -/
def rep (m : Nat) : Nat → Nat
  | 0 => 0
  | n + 1 => m + 256 * rep m n
theorem and_split (u v p q : Nat) (hu : u < 256) (hp : p < 256) : (u + 256 * v) &&& (p + 256 * q) = (u &&& p) + 256 * (v &&& q) := by
  have hup : u &&& p < 256 := Nat.lt_of_le_of_lt Nat.and_le_left hu
  have e : ∀ a b : Nat, a < 256 → ∀ i, (a + 256 * b).testBit i = if i < 8 then a.testBit i else b.testBit (i - 8) := by
    intro a b ha i
    rw [Nat.add_comm]
    exact Nat.testBit_two_pow_mul_add b (show a < 2 ^ 8 from ha) i
  apply Nat.eq_of_testBit_eq
  intro i
  rw [Nat.testBit_and, e u v hu, e p q hp, e _ _ hup]
  split
  · rw [Nat.testBit_and]
  · rw [Nat.testBit_and]
/-- a byte's way: the first three steps -/
def s1 (b : Nat) : Nat := ((b / 2) &&& 0x55) + (b &&& 0x55)
def s2 (b : Nat) : Nat := ((b / 4) &&& 0x33) + (b &&& 0x33)
theorem s1_lt (b : Nat) : s1 b < 256 := by
  have h1 : (b / 2) &&& 0x55 ≤ 0x55 := Nat.and_le_right
  have h2 : b &&& 0x55 ≤ 0x55 := Nat.and_le_right
  unfold s1; omega
theorem s2_lt (b : Nat) : s2 b ≤ 0x66 := by
  have h1 : (b / 4) &&& 0x33 ≤ 0x33 := Nat.and_le_right
  have h2 : b &&& 0x33 ≤ 0x33 := Nat.and_le_right
  unfold s2; omega
theorem s_pop : ∀ b < 256, (s2 (s1 b) / 16 + s2 (s1 b)) % 16 = pop8 b ∧ s2 (s1 b) / 16 ≤ 4 ∧ s2 (s1 b) % 16 ≤ 4 := by decide +kernel
theorem pop8_le : ∀ b < 256, pop8 b ≤ 8 := by decide +kernel
/-- the bytes' ways, put together -/
def each (f : Nat → Nat) : Nat → Nat → Nat
  | 0, _ => 0
  | n + 1, x => f (x % 256) + 256 * each f n (x / 256)
theorem each_lt (f : Nat → Nat) (hf : ∀ b < 256, f b < 256) : ∀ n x, each f n x < 256 ^ n
  | 0, _ => by simp [each]
  | n + 1, x => by
    have h := each_lt f hf n (x / 256)
    have h0 := hf (x % 256) (Nat.mod_lt _ (by decide))
    show f (x % 256) + 256 * each f n (x / 256) < 256 ^ (n + 1)
    rw [Nat.pow_succ]
    omega
theorem aux1 : ∀ b < 256, ∀ t < 2, ((b / 2 + 128 * t) &&& 0x55) = ((b / 2) &&& 0x55) := by decide +kernel
theorem aux2 : ∀ b < 256, ∀ t < 4, ((b / 4 + 64 * t) &&& 0x33) = ((b / 4) &&& 0x33) := by decide +kernel
theorem step1 : ∀ n x, x < 256 ^ n → ((x / 2) &&& rep 0x55 n) + (x &&& rep 0x55 n) = each s1 n x
  | 0, x, h => by
    have : x = 0 := by simpa using h
    subst this; rfl
  | n + 1, x, h => by
    have hy : x / 256 < 256 ^ n := by rw [Nat.pow_succ] at h; omega
    have ih := step1 n (x / 256) hy
    have hb : x % 256 < 256 := Nat.mod_lt _ (by decide)
    have e1 : x / 2 = (x % 256 / 2 + 128 * (x / 256 % 2)) + 256 * (x / 256 / 2) := by omega
    have e2 : x = x % 256 + 256 * (x / 256) := by omega
    have a1 := and_split (x % 256 / 2 + 128 * (x / 256 % 2)) (x / 256 / 2) 0x55 (rep 0x55 n) (by omega) (by decide)
    have a2 := and_split (x % 256) (x / 256) 0x55 (rep 0x55 n) hb (by decide)
    rw [← e1] at a1
    rw [← e2] at a2
    rw [aux1 _ hb _ (Nat.mod_lt _ (by decide))] at a1
    show ((x / 2) &&& (0x55 + 256 * rep 0x55 n)) + (x &&& (0x55 + 256 * rep 0x55 n)) = s1 (x % 256) + 256 * each s1 n (x / 256)
    rw [a1, a2, ← ih]
    unfold s1
    omega
theorem step2 : ∀ n x, x < 256 ^ n → ((x / 4) &&& rep 0x33 n) + (x &&& rep 0x33 n) = each s2 n x
  | 0, x, h => by
    have : x = 0 := by simpa using h
    subst this; rfl
  | n + 1, x, h => by
    have hy : x / 256 < 256 ^ n := by rw [Nat.pow_succ] at h; omega
    have ih := step2 n (x / 256) hy
    have hb : x % 256 < 256 := Nat.mod_lt _ (by decide)
    have e1 : x / 4 = (x % 256 / 4 + 64 * (x / 256 % 4)) + 256 * (x / 256 / 4) := by omega
    have e2 : x = x % 256 + 256 * (x / 256) := by omega
    have a1 := and_split (x % 256 / 4 + 64 * (x / 256 % 4)) (x / 256 / 4) 0x33 (rep 0x33 n) (by omega) (by decide)
    have a2 := and_split (x % 256) (x / 256) 0x33 (rep 0x33 n) hb (by decide)
    rw [← e1] at a1
    rw [← e2] at a2
    rw [aux2 _ hb _ (Nat.mod_lt _ (by decide))] at a1
    show ((x / 4) &&& (0x33 + 256 * rep 0x33 n)) + (x &&& (0x33 + 256 * rep 0x33 n)) = s2 (x % 256) + 256 * each s2 n (x / 256)
    rw [a1, a2, ← ih]
    unfold s2
    omega
theorem each_each (f g : Nat → Nat) (hf : ∀ b < 256, f b < 256) : ∀ n x, each g n (each f n x) = each (fun b => g (f b)) n x
  | 0, _ => rfl
  | n + 1, x => by
    have h0 := hf (x % 256) (Nat.mod_lt _ (by decide))
    show g ((f (x % 256) + 256 * each f n (x / 256)) % 256) + 256 * each g n ((f (x % 256) + 256 * each f n (x / 256)) / 256) = _
    rw [show (f (x % 256) + 256 * each f n (x / 256)) % 256 = f (x % 256) by omega, show (f (x % 256) + 256 * each f n (x / 256)) / 256 = each f n (x / 256) by omega, each_each f g hf n]
    rfl
theorem aux3 : ∀ d < 256, d / 16 ≤ 4 → d % 16 ≤ 4 → ∀ t < 5, ((d / 16 + 16 * t + d) &&& 0x0f) = (d / 16 + d) % 16 ∧ d / 16 + 16 * t + d < 256 := by decide +kernel
/-- numbers whose half bytes are at most 4 -/
def Low : Nat → Nat → Prop
  | 0, x => x = 0
  | n + 1, x => x % 256 / 16 ≤ 4 ∧ x % 16 ≤ 4 ∧ Low n (x / 256)
theorem low_mod {n x : Nat} (h : Low n x) : x % 16 ≤ 4 := by
  cases n with
  | zero => have : x = 0 := h; omega
  | succ n => exact h.2.1
theorem step3 : ∀ n x, Low n x → ((x / 16 + x) &&& rep 0x0f n) = each (fun d => (d / 16 + d) % 16) n x
  | 0, x, h => by
    have : x = 0 := h
    subst this; rfl
  | n + 1, x, h => by
    obtain ⟨h1, h2, h3⟩ := h
    have ih := step3 n (x / 256) h3
    have hb : x % 256 < 256 := Nat.mod_lt _ (by decide)
    have ht := low_mod h3
    have hm : x % 256 % 16 ≤ 4 := by omega
    obtain ⟨b1, b2⟩ := aux3 (x % 256) hb h1 hm (x / 256 % 16) (by omega)
    have e1 : x / 16 + x = (x % 256 / 16 + 16 * (x / 256 % 16) + x % 256) + 256 * (x / 256 / 16 + x / 256) := by omega
    have a1 := and_split (x % 256 / 16 + 16 * (x / 256 % 16) + x % 256) (x / 256 / 16 + x / 256) 0x0f (rep 0x0f n) b2 (by decide)
    rw [← e1, b1, ih] at a1
    exact a1
theorem low_each : ∀ n x, Low n (each (fun b => s2 (s1 b)) n x)
  | 0, _ => rfl
  | n + 1, x => by
    have hb : x % 256 < 256 := Nat.mod_lt _ (by decide)
    obtain ⟨h1, h2, h3⟩ := s_pop _ hb
    have h4 := s2_lt (s1 (x % 256))
    show Low (n + 1) (s2 (s1 (x % 256)) + 256 * each (fun b => s2 (s1 b)) n (x / 256))
    have h5 : (s2 (s1 (x % 256)) + 256 * each (fun b => s2 (s1 b)) n (x / 256)) % 16 ≤ 4 := by
      rw [show (s2 (s1 (x % 256)) + 256 * each (fun b => s2 (s1 b)) n (x / 256)) % 16 = s2 (s1 (x % 256)) % 16 by omega]
      exact h3
    refine ⟨by omega, h5, ?_⟩
    rw [show (s2 (s1 (x % 256)) + 256 * each (fun b => s2 (s1 b)) n (x / 256)) / 256 = each (fun b => s2 (s1 b)) n (x / 256) by omega]
    exact low_each n (x / 256)
theorem each_congr (f g : Nat → Nat) (h : ∀ b < 256, f b = g b) : ∀ n x, each f n x = each g n x
  | 0, _ => rfl
  | n + 1, x => by
    show f _ + 256 * each f n _ = g _ + 256 * each g n _
    rw [h _ (Nat.mod_lt _ (by decide)), each_congr f g h n]
/-- the first steps leave each byte's count -/
theorem steps (x : Nat) (h : x < 18446744073709551616) :
    let x1 := ((x / 2) &&& 6148914691236517205) + (x &&& 6148914691236517205)
    let x2 := ((x1 / 4) &&& 3689348814741910323) + (x1 &&& 3689348814741910323)
    ((x2 / 16 + x2) &&& 1085102592571150095) = each pop8 8 x := by
  intro x1 x2
  have m1 : 6148914691236517205 = rep 0x55 8 := by decide
  have m2 : 3689348814741910323 = rep 0x33 8 := by decide
  have m3 : 1085102592571150095 = rep 0x0f 8 := by decide
  have e1 : x1 = each s1 8 x := by show _ + _ = _; rw [m1]; exact step1 8 x (by omega)
  have e2 : x2 = each (fun b => s2 (s1 b)) 8 x := by
    show _ + _ = _
    rw [m2, e1, step2 8 _ (each_lt s1 (fun b _ => s1_lt b) 8 x), each_each s1 s2 (fun b _ => s1_lt b)]
  rw [e2, m3, step3 8 _ (low_each 8 x), each_each (fun b => s2 (s1 b)) (fun d => (d / 16 + d) % 16) (fun b _ => by have := s2_lt (s1 b); omega)]
  exact each_congr _ _ (fun b hb => (s_pop b hb).1) 8 x
theorem sums0 (q0 q1 q2 q3 q4 q5 q6 q7 y : Nat) (p0 : q0 ≤ 8) (p1 : q1 ≤ 8) (p2 : q2 ≤ 8) (p3 : q3 ≤ 8) (p4 : q4 ≤ 8) (p5 : q5 ≤ 8) (p6 : q6 ≤ 8) (p7 : q7 ≤ 8)
    (hy : y = q0 + 256 * q1 + 65536 * q2 + 16777216 * q3 + 4294967296 * q4 + 1099511627776 * q5 + 281474976710656 * q6 + 72057594037927936 * q7) :
    ∃ y1 y2 y3, y1 = y / 256 + y ∧ y2 = y1 / 65536 + y1 ∧ y3 = y2 / 4294967296 + y2 ∧ y3 % 128 = q0 + q1 + q2 + q3 + q4 + q5 + q6 + q7 ∧ y < 18446744073709551616 ∧ y1 < 18446744073709551616 ∧ y2 < 18446744073709551616 ∧ y3 < 9223372036854775808 := by
  have f0 : y / 256 = q1 + 256 * q2 + 65536 * q3 + 16777216 * q4 + 4294967296 * q5 + 1099511627776 * q6 + 281474976710656 * q7 := by omega
  obtain ⟨y1, h1⟩ : ∃ y1, y1 = y / 256 + y := ⟨_, rfl⟩
  have f1 : y1 = (q0 + q1 + 256 * (q1 + q2)) + 65536 * ((q2 + q3) + 256 * (q3 + q4) + 65536 * (q4 + q5) + 16777216 * (q5 + q6) + 4294967296 * (q6 + q7) + 1099511627776 * q7) := by omega
  have f2 : y1 / 65536 = (q2 + q3) + 256 * (q3 + q4) + 65536 * (q4 + q5) + 16777216 * (q5 + q6) + 4294967296 * (q6 + q7) + 1099511627776 * q7 := by
    rw [f1, Nat.add_mul_div_left _ _ (by decide), Nat.div_eq_of_lt (by omega), Nat.zero_add]
  obtain ⟨y2, h2⟩ : ∃ y2, y2 = y1 / 65536 + y1 := ⟨_, rfl⟩
  have f3 : y2 = ((q0 + q1 + q2 + q3) + 256 * (q1 + q2 + q3 + q4) + 65536 * (q2 + q3 + q4 + q5) + 16777216 * (q3 + q4 + q5 + q6)) + 4294967296 * ((q4 + q5 + q6 + q7) + 256 * (q5 + q6 + q7) + 65536 * (q6 + q7) + 16777216 * q7) := by rw [h2, f2, f1]; clear f0 f1 f2 h1 h2 hy; omega
  have f4 : y2 / 4294967296 = (q4 + q5 + q6 + q7) + 256 * (q5 + q6 + q7) + 65536 * (q6 + q7) + 16777216 * q7 := by
    rw [f3, Nat.add_mul_div_left _ _ (by decide), Nat.div_eq_of_lt (by omega), Nat.zero_add]
  obtain ⟨y3, h3⟩ : ∃ y3, y3 = y2 / 4294967296 + y2 := ⟨_, rfl⟩
  have f5 : y3 = (q0 + q1 + q2 + q3 + q4 + q5 + q6 + q7) + 128 * (2 * (q1 + q2 + q3 + q4 + q5 + q6 + q7) + 512 * (q2 + q3 + q4 + q5 + q6 + q7) + 131072 * (q3 + q4 + q5 + q6 + q7) + 33554432 * (q4 + q5 + q6 + q7) + 8589934592 * (q5 + q6 + q7) + 2199023255552 * (q6 + q7) + 562949953421312 * q7) := by
    rw [h3, f4, f3]; clear f0 f1 f2 f3 f4 h1 h2 h3 hy; omega
  refine ⟨y1, y2, y3, h1, h2, h3, ?_, ?_, ?_, ?_, ?_⟩
  · rw [f5, Nat.add_mul_mod_self_left]; clear f0 f1 f2 f3 f4 f5 h1 h2 h3 hy; omega
  · clear f0 f1 f2 f3 f4 f5 h1 h2 h3; omega
  · clear f0 f2 f3 f4 f5 h1 h2 h3 hy; omega
  · clear f0 f1 f2 f4 f5 h1 h2 h3 hy; omega
  · clear f0 f1 f2 f3 f4 h1 h2 h3 hy; omega
theorem each8 (f : Nat → Nat) (x : Nat) : each f 8 x = f (x % 256) + 256 * f (x / 256 % 256) + 65536 * f (x / 256 / 256 % 256) + 16777216 * f (x / 256 / 256 / 256 % 256) + 4294967296 * f (x / 256 / 256 / 256 / 256 % 256) + 1099511627776 * f (x / 256 / 256 / 256 / 256 / 256 % 256) + 281474976710656 * f (x / 256 / 256 / 256 / 256 / 256 / 256 % 256) + 72057594037927936 * f (x / 256 / 256 / 256 / 256 / 256 / 256 / 256 % 256) := by
  simp only [each]
  omega
/-- the last ones sum them -/
theorem sums (x : Nat) : ∃ y1 y2 y3, y1 = each pop8 8 x / 256 + each pop8 8 x ∧ y2 = y1 / 65536 + y1 ∧ y3 = y2 / 4294967296 + y2 ∧ y3 % 128 = popN 8 x ∧ each pop8 8 x < 18446744073709551616 ∧ y1 < 18446744073709551616 ∧ y2 < 18446744073709551616 ∧ y3 < 9223372036854775808 := by
  have hp := fun z : Nat => pop8_le (z % 256) (Nat.mod_lt _ (by decide))
  obtain ⟨y1, y2, y3, h1, h2, h3, h4, h5⟩ := sums0 _ _ _ _ _ _ _ _ _ (hp x) (hp (x / 256)) (hp (x / 256 / 256)) (hp (x / 256 / 256 / 256)) (hp (x / 256 / 256 / 256 / 256)) (hp (x / 256 / 256 / 256 / 256 / 256)) (hp (x / 256 / 256 / 256 / 256 / 256 / 256)) (hp (x / 256 / 256 / 256 / 256 / 256 / 256 / 256)) (each8 pop8 x)
  refine ⟨y1, y2, y3, h1, h2, h3, ?_, h5⟩
  rw [h4]
  simp only [popN]
  omega
/-- how many bits are set -/
def cnt (n x : Nat) : Nat := ((List.range n).filter (fun k => x.testBit k)).length
theorem cnt_split (n x : Nat) : cnt (8 * (n + 1)) x = pop8 (x % 256) + cnt (8 * n) (x / 256) := by
  unfold cnt pop8
  rw [show 8 * (n + 1) = 8 + 8 * n by omega, List.range_add, List.filter_append, List.length_append]
  have hb : ∀ k < 8, x.testBit k = (x % 256).testBit k := by
    intro k hk
    rw [show (256 : Nat) = 2 ^ 8 from rfl, Nat.testBit_mod_two_pow, decide_eq_true hk, Bool.true_and]
  have h1 : (List.range 8).filter (fun k => x.testBit k) = (List.range 8).filter (fun k => (x % 256).testBit k) :=
    List.filter_congr (fun k hk => hb k (List.mem_range.mp hk))
  have h2 : ((List.map (fun a => 8 + a) (List.range (8 * n))).filter (fun k => x.testBit k)).length = ((List.range (8 * n)).filter (fun k => (x / 256).testBit k)).length := by
    rw [List.filter_map, List.length_map]
    congr 1
    refine List.filter_congr (fun k _ => ?_)
    show x.testBit (8 + k) = (x / 256).testBit k
    rw [show (256 : Nat) = 2 ^ 8 from rfl, Nat.testBit_div_two_pow, Nat.add_comm]
  rw [h1, h2]
theorem popN_cnt : ∀ n x, popN n x = cnt (8 * n) x
  | 0, _ => rfl
  | n + 1, x => by
    rw [cnt_split, ← popN_cnt n]
    rfl
end Go.Proofs.Ytaegjpabkkoleaa.Pop
