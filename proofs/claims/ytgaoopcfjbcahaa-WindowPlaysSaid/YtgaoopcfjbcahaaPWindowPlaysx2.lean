/- Functions of the translation and what they come to: laid by a program of this session (xprint.py) beside contracts proved by hand. No condition. -/
import Derived.Test.YtgaoopcfjbcahaaPWindowPlaysx0
import Derived.Test.YtgaoopcfjbcahaaPWindowPlaysx1
namespace Go.Proofs.Ytgaoopcfjbcahaa.PWindowPlays
open Go.RowKit Go.Proofs.YtgaoopcfjbcahaaW.PrintWords Go.Proofs.YtgaoopcfjbcahaaW.PrintLast Go.Proofs.YtgaoopcfjbcahaaW.PrintMore
attribute [local go_sem] max2_int min2_int max_two min_two max_three min_three max_four min_four   -- for this text's walks alone
set_option linter.unusedVariables false
set_option linter.unusedSimpArgs false

open Go.Proofs.Ytgaoopcfjbcahaa.Aid (Ev.succ Ev.const w64)
open Go.Proofs.Ytgaoopcfjbcahaa.Win (Win St addS clearS newS add_held add_fit add_grow add_le field40 far_of win_new win_add win_clear win_len win_room win_counts win_bytes clear_none add_none bytes_none len_none room_none zero40 meter_new window_new roomN MAt mp)
def sumL : List S33 → Nat
  | [] => 0
  | x :: L => x.f1.length + sumL L
theorem sumL_app : ∀ a b : List S33, sumL (a ++ b) = sumL a + sumL b
  | [], b => by simp [sumL]
  | x :: a, b => by simp only [List.cons_append, sumL, sumL_app a b]; omega
theorem rdT (L : List S33) (n : Nat) (h : n < L.length) : rd_T33 L (n : Int) = L[n] := by
  unfold rd_T33; rw [Int.toNat_natCast, List.getD_eq_getElem?_getD, List.getElem?_eq_getElem h]; rfl
theorem few_loop (L : List S33) (hl : L.length < 8796093022208) (d : Nat) : ∀ n : Nat, n + d = L.length → sumL (L.take n) ≤ 4000 →
    ∃ r, Ev (fun k => seinelaw18_few.l0 k L (sumL (L.take n) : Int) (n : Int)) r ∧ (r = true → sumL L ≤ 4000 ∧ L.length ≤ 200) := by
  induction d with
  | zero =>
    intro n hn hs
    refine ⟨decide ((L.length : Int) ≤ 200), ?_, fun h => ?_⟩
    · refine Ev.succ ?_
      simp only [seinelaw18_few.l0, if_neg (show ¬ (n : Int) < (L.length : Int) by omega)]
      exact Ev.const rfl
    · rw [List.take_of_length_le (by omega)] at hs
      have := of_decide_eq_true h
      omega
  | succ d ih =>
    intro n hn hs
    have hr := rdT L n (by omega)
    have ht := List.take_succ_eq_append_getElem (show n < L.length by omega)
    have hsum : sumL (L.take (n + 1)) = sumL (L.take n) + (L[n]).f1.length := by rw [ht, sumL_app]; simp [sumL]
    by_cases h1 : ((L[n]).f1.length : Int) > 2000
    · refine ⟨false, ?_, fun h => by cases h⟩
      refine Ev.succ ?_
      simp only [seinelaw18_few.l0, if_pos (show (n : Int) < (L.length : Int) by omega), if_pos (show (0 : Int) ≤ (n : Int) by omega), hr, if_pos h1]
      exact Ev.const rfl
    · by_cases h2 : (sumL (L.take n) : Int) + ((L[n]).f1.length : Int) > 4000
      · refine ⟨false, ?_, fun h => by cases h⟩
        refine Ev.succ ?_
        simp only [seinelaw18_few.l0, if_pos (show (n : Int) < (L.length : Int) by omega), if_pos (show (0 : Int) ≤ (n : Int) by omega), hr, if_neg h1, w64 (show -9223372036854775808 ≤ (sumL (L.take n) : Int) + ((L[n]).f1.length : Int) by omega) (show (sumL (L.take n) : Int) + ((L[n]).f1.length : Int) ≤ 9223372036854775807 by omega), if_pos h2]
        exact Ev.const rfl
      · obtain ⟨r, q1, q2⟩ := ih (n + 1) (by omega) (by omega)
        refine ⟨r, ?_, q2⟩
        refine Ev.succ ?_
        simp only [seinelaw18_few.l0, if_pos (show (n : Int) < (L.length : Int) by omega), if_pos (show (0 : Int) ≤ (n : Int) by omega), hr, if_neg h1, w64 (show -9223372036854775808 ≤ (sumL (L.take n) : Int) + ((L[n]).f1.length : Int) by omega) (show (sumL (L.take n) : Int) + ((L[n]).f1.length : Int) ≤ 9223372036854775807 by omega), if_neg h2, w64 (show -9223372036854775808 ≤ (n : Int) + 1 by omega) (show (n : Int) + 1 ≤ 9223372036854775807 by omega)]
        rw [hsum] at q1
        exact q1
theorem few_tot (L : List S33) (hl : L.length < 8796093022208) : ∃ k r, seinelaw18_few.f k L = some r ∧ (r = true → sumL L ≤ 4000 ∧ L.length ≤ 200) := by
  obtain ⟨r, h, h2⟩ := few_loop L hl L.length 0 (by omega) (by simp [sumL])
  obtain ⟨k, hk⟩ := Ev.rounds (g := fun k => seinelaw18_few.f k L) (r := r) h
  exact ⟨k, r, hk, h2⟩
theorem sum_take (L : List S33) (n : Nat) : sumL (L.take n) ≤ sumL L := by
  have h := sumL_app (L.take n) (L.drop n)
  rw [List.take_append_drop] at h
  omega
/-- bytes that were moved, against those that were added -/
structure Good (st : St) (N : Nat) : Prop where
  lo : N ≤ st.mv
  hi : st.mv ≤ 3 * N
  pot : st.mv ≤ N + st.room
  held : st.held.length ≤ N
  room : st.room ≤ 10000
  fit : st.held.length ≤ st.room
theorem good_add {st : St} {N : Nat} (h : Good st N) (l : List Int) (hN : N + l.length ≤ 4000) : Good (addS st l) (N + l.length) ∧ st.room ≤ (addS st l).room := by
  have h1 := h.lo; have h2 := h.hi; have h3 := h.pot; have h4 := h.held; have h5 := h.room; have h6 := h.fit
  have e : (addS st l).held.length = st.held.length + l.length := by rw [add_held, List.length_append]
  by_cases hf : st.held.length + l.length ≤ st.room
  · obtain ⟨q1, q2⟩ := add_fit st l hf
    exact ⟨⟨by omega, by omega, by omega, by omega, by omega, by omega⟩, by omega⟩
  · obtain ⟨q1, q2⟩ := add_grow st l hf h6
    unfold roomN at q1
    exact ⟨⟨by omega, by omega, by omega, by omega, by omega, by omega⟩, by omega⟩
theorem good_clear {st : St} {N : Nat} (h : Good st N) : Good (clearS st) N := ⟨h.lo, h.hi, h.pot, Nat.zero_le _, h.room, Nat.zero_le _⟩
theorem good_new : Good newS 0 := ⟨Nat.le_refl _, Nat.le_refl _, Nat.zero_le _, Nat.le_refl _, by decide, Nat.le_refl _⟩
theorem zero30 (W : World) : (zeroValue 30).run Try.prog W = .ok (.agg #[.string ⟨#[]⟩, .int .i64 0, .int .i64 0]) W := by
  have h : (Try.prog.info? 30).map (·.zero) = some (some (.agg #[.string ⟨#[]⟩, .int .i64 0, .int .i64 0])) := by kernel_rfl
  obtain ⟨i, hi, he⟩ := Option.map_eq_some_iff.mp h
  simp [zeroValue, typeInfo, hi, he, Sem.run_bind]
theorem info30 : (Try.prog.info? 30).map (·.size) = some 3 := by kernel_rfl
set_option maxHeartbeats 8000000 in
set_option maxRecDepth 100000 in
theorem ref_none (s : ByteArray) (room mv : Nat) (w : World) :
    Calls Try.prog 14 #[.agg #[.string s, .int .i64 (room : Int), .int .i64 (mv : Int)], .string ⟨#[]⟩] w fun e w' => e = .returned (.agg #[.string s, .int .i64 (room : Int), .int .i64 (mv : Int)]) ∧ Below w.heap.size w w' := by
  have hu30 := Try.underlying30
  have hz := zero30
  have hq : ((⟨#[]⟩ : ByteArray).toList == ([] : List UInt8)) = true := by decide +kernel
  have e0 := blk_alloc (blk_new w (.cells #[.string s, .int .i64 (room : Int), .int .i64 (mv : Int)] 30)) (.cells #[.string ⟨#[]⟩, .int .i64 0, .int .i64 0] 30)
  have e1 := blk_new (w.alloc (.cells #[.string s, .int .i64 (room : Int), .int .i64 (mv : Int)] 30)) (.cells #[.string ⟨#[]⟩, .int .i64 0, .int .i64 0] 30)
  rw [World.size_alloc] at e1
  have k0 := (blk_cell e0 0).trans (show _ = some (Value.string s) from rfl)
  have k1 := (blk_cell e0 1).trans (show _ = some (Value.int .i64 (room : Int)) from rfl)
  have k2 := (blk_cell e0 2).trans (show _ = some (Value.int .i64 (mv : Int)) from rfl)
  have f0 := blk_frozen e0 0
  have f1 := blk_frozen e0 1
  have f2 := blk_frozen e0 2
  have j0 := (blk_cell e1 0).trans (show _ = some (Value.string ⟨#[]⟩) from rfl)
  have j1 := (blk_cell e1 1).trans (show _ = some (Value.int .i64 0) from rfl)
  have j2 := (blk_cell e1 2).trans (show _ = some (Value.int .i64 0) from rfl)
  have m0 := blk_frozen e1 0
  have m1 := blk_frozen e1 1
  have m2 := blk_frozen e1 2
  go_enter Try.func14, Try.ntmps14
  go_wp2
  refine bodyPost_ret (results_single rfl (Vals.cell (w.heap.size + 1) 30 #[.string s, .int .i64 (room : Int), .int .i64 (mv : Int)] (0, 0) _ rfl ?_ Try.underlying30 rfl info30 Vals.nil)) rfl ?_
  · have e := blk_new (w.alloc (.cells #[.string s, .int .i64 (room : Int), .int .i64 (mv : Int)] 30)) (.cells #[.string s, .int .i64 (room : Int), .int .i64 (mv : Int)] 30)
    rw [World.size_alloc] at e
    exact e
  · exact ⟨rfl, below_alloc (below_alloc (Below.refl _ _) _) _⟩
set_option maxHeartbeats 8000000 in
set_option maxRecDepth 100000 in
/-- the document's Add, where the bytes fit -/
theorem ref_fit (s b : ByteArray) (n k : Nat) (room mv : Nat) (w : World) (hs : s.size = n) (hb : b.size = k) (hk : 0 < k) (hf : n + k ≤ room) (hr : room ≤ 10000) (hm : mv ≤ 1000000) :
    Calls Try.prog 14 #[.agg #[.string s, .int .i64 (room : Int), .int .i64 (mv : Int)], .string b] w fun e w' => e = .returned (.agg #[.string (s ++ b), .int .i64 (room : Int), .int .i64 ((mv : Int) + (k : Int))]) ∧ Below w.heap.size w w' := by
  have hu30 := Try.underlying30
  have hz := zero30
  have hq : (b.toList == ([] : List UInt8)) = false := by
    rw [beq_eq_false_iff_ne]
    intro e
    have : b.toList.length = 0 := by rw [e]; rfl
    have h2 : b.toList.length = b.size := by rw [ByteArray.toList_eq]; rfl
    omega
  have hw1 : wrap64 ((s.size : Int) + (b.size : Int)) = ((n + k : Nat) : Int) := by rw [hs, hb]; unfold wrap64; omega
  have hw2 : wrap64 ((mv : Int) + (b.size : Int)) = ((mv + k : Nat) : Int) := by rw [hb]; unfold wrap64; omega
  have c1 : decide (((n + k : Nat) : Int) > (room : Int)) = false := decide_eq_false (by omega)
  have c1b : ¬ room < n + k := by omega
  have c1c : decide ((room : Int) < (n : Int) + (k : Int)) = false := decide_eq_false (by omega)
  have hsz : s.size + b.size ≤ 9223372036854775807 := by omega
  have s0 := eq_true hsz
  have s1 : decide (s.size + b.size ≤ 9223372036854775807) = true := decide_eq_true hsz
  have e0 := blk_alloc (blk_new w (.cells #[.string s, .int .i64 (room : Int), .int .i64 (mv : Int)] 30)) (.cells #[.string ⟨#[]⟩, .int .i64 0, .int .i64 0] 30)
  have e1 := blk_new (w.alloc (.cells #[.string s, .int .i64 (room : Int), .int .i64 (mv : Int)] 30)) (.cells #[.string ⟨#[]⟩, .int .i64 0, .int .i64 0] 30)
  rw [World.size_alloc] at e1
  have k0 := (blk_cell e0 0).trans (show _ = some (Value.string s) from rfl)
  have k1 := (blk_cell e0 1).trans (show _ = some (Value.int .i64 (room : Int)) from rfl)
  have k2 := (blk_cell e0 2).trans (show _ = some (Value.int .i64 (mv : Int)) from rfl)
  have f0 := blk_frozen e0 0
  have f1 := blk_frozen e0 1
  have f2 := blk_frozen e0 2
  have j0 := (blk_cell e1 0).trans (show _ = some (Value.string ⟨#[]⟩) from rfl)
  have j1 := (blk_cell e1 1).trans (show _ = some (Value.int .i64 0) from rfl)
  have j2 := (blk_cell e1 2).trans (show _ = some (Value.int .i64 0) from rfl)
  have m0 := blk_frozen e1 0
  have m1 := blk_frozen e1 1
  have m2 := blk_frozen e1 2
  go_enter Try.func14, Try.ntmps14
  go_wp2
  refine bodyPost_ret (results_single rfl (Vals.cell (w.heap.size + 1) 30 #[.string (s ++ b), .int .i64 (room : Int), .int .i64 ((mv : Int) + (k : Int))] (0, 0) _ rfl ?_ Try.underlying30 rfl info30 Vals.nil)) rfl ?_
  · have e := blk_new (w.alloc (.cells #[.string (s ++ b), .int .i64 (room : Int), .int .i64 ((mv : Int) + (k : Int))] 30)) (.cells #[.string (s ++ b), .int .i64 (room : Int), .int .i64 ((mv : Int) + (k : Int))] 30)
    rw [World.size_alloc] at e
    exact e
  · exact ⟨rfl, below_alloc (below_alloc (Below.refl _ _) _) _⟩
set_option maxHeartbeats 8000000 in
set_option maxRecDepth 100000 in
/-- the document's Add, where they don't -/
theorem ref_grow (s b : ByteArray) (n k : Nat) (room mv : Nat) (w : World) (hs : s.size = n) (hb : b.size = k) (hk : 0 < k) (hf : ¬ n + k ≤ room) (hn : n ≤ 10000) (hk2 : k ≤ 10000) (hr : room ≤ 10000) (hm : mv ≤ 1000000) :
    Calls Try.prog 14 #[.agg #[.string s, .int .i64 (room : Int), .int .i64 (mv : Int)], .string b] w fun e w' => e = .returned (.agg #[.string (s ++ b), .int .i64 ((roomN room (n + k) : Nat) : Int), .int .i64 ((mv : Int) + (n : Int) + (k : Int))]) ∧ Below w.heap.size w w' := by
  have hu30 := Try.underlying30
  have hz := zero30
  have hq : (b.toList == ([] : List UInt8)) = false := by
    rw [beq_eq_false_iff_ne]
    intro e
    have : b.toList.length = 0 := by rw [e]; rfl
    have h2 : b.toList.length = b.size := by rw [ByteArray.toList_eq]; rfl
    omega
  have hw1 : wrap64 ((s.size : Int) + (b.size : Int)) = ((n + k : Nat) : Int) := by rw [hs, hb]; unfold wrap64; omega
  have hw2 : wrap64 ((mv : Int) + (s.size : Int)) = (mv : Int) + (n : Int) := by rw [hs]; unfold wrap64; omega
  have hw3 : wrap64 ((mv : Int) + (n : Int) + (b.size : Int)) = (mv : Int) + (n : Int) + (k : Int) := by rw [hb]; unfold wrap64; omega
  have hw4 : wrap64 (2 * (room : Int)) = 2 * (room : Int) := by unfold wrap64; omega
  have c1 : decide (((n + k : Nat) : Int) > (room : Int)) = true := decide_eq_true (by omega)
  have c1b : room < n + k := by omega
  have c1c : decide ((room : Int) < (n : Int) + (k : Int)) = true := decide_eq_true (by omega)
  have hsz : s.size + b.size ≤ 9223372036854775807 := by omega
  have s0 := eq_true hsz
  have s1 : decide (s.size + b.size ≤ 9223372036854775807) = true := decide_eq_true hsz
  have e0 := blk_alloc (blk_new w (.cells #[.string s, .int .i64 (room : Int), .int .i64 (mv : Int)] 30)) (.cells #[.string ⟨#[]⟩, .int .i64 0, .int .i64 0] 30)
  have e1 := blk_new (w.alloc (.cells #[.string s, .int .i64 (room : Int), .int .i64 (mv : Int)] 30)) (.cells #[.string ⟨#[]⟩, .int .i64 0, .int .i64 0] 30)
  rw [World.size_alloc] at e1
  have k0 := (blk_cell e0 0).trans (show _ = some (Value.string s) from rfl)
  have k1 := (blk_cell e0 1).trans (show _ = some (Value.int .i64 (room : Int)) from rfl)
  have k2 := (blk_cell e0 2).trans (show _ = some (Value.int .i64 (mv : Int)) from rfl)
  have f0 := blk_frozen e0 0
  have f1 := blk_frozen e0 1
  have f2 := blk_frozen e0 2
  have j0 := (blk_cell e1 0).trans (show _ = some (Value.string ⟨#[]⟩) from rfl)
  have j1 := (blk_cell e1 1).trans (show _ = some (Value.int .i64 0) from rfl)
  have j2 := (blk_cell e1 2).trans (show _ = some (Value.int .i64 0) from rfl)
  have m0 := blk_frozen e1 0
  have m1 := blk_frozen e1 1
  have m2 := blk_frozen e1 2
  by_cases d1 : 2 * room < n + k
  · have d1a : decide (2 * (room : Int) < (n : Int) + (k : Int)) = true := decide_eq_true (by omega)
    have d1b : 2 * (room : Int) < (n : Int) + (k : Int) := by omega
    by_cases d2 : n + k < 16
    · have d2a : decide ((n : Int) + (k : Int) < 16) = true := decide_eq_true (by omega)
      have d2b : (n : Int) + (k : Int) < 16 := by omega
      have hR : ((roomN room (n + k) : Nat) : Int) = 16 := by unfold roomN; omega
      rw [hR]
      clear hR
      go_enter Try.func14, Try.ntmps14
      go_wp2
      refine bodyPost_ret (results_single rfl (Vals.cell (w.heap.size + 1) 30 #[.string (s ++ b), .int .i64 16, .int .i64 ((mv : Int) + (n : Int) + (k : Int))] (0, 0) _ rfl ?_ Try.underlying30 rfl info30 Vals.nil)) rfl ?_
      · have e := blk_new (w.alloc (.cells #[.string (s ++ b), .int .i64 16, .int .i64 ((mv : Int) + (n : Int) + (k : Int))] 30)) (.cells #[.string (s ++ b), .int .i64 16, .int .i64 ((mv : Int) + (n : Int) + (k : Int))] 30)
        rw [World.size_alloc] at e
        exact e
      · exact ⟨rfl, below_alloc (below_alloc (Below.refl _ _) _) _⟩
    · have d2a : decide ((n : Int) + (k : Int) < 16) = false := decide_eq_false (by omega)
      have d2b : ¬ (n : Int) + (k : Int) < 16 := by omega
      have hR : ((roomN room (n + k) : Nat) : Int) = (n : Int) + (k : Int) := by unfold roomN; omega
      rw [hR]
      clear hR
      go_enter Try.func14, Try.ntmps14
      go_wp2
      refine bodyPost_ret (results_single rfl (Vals.cell (w.heap.size + 1) 30 #[.string (s ++ b), .int .i64 ((n : Int) + (k : Int)), .int .i64 ((mv : Int) + (n : Int) + (k : Int))] (0, 0) _ rfl ?_ Try.underlying30 rfl info30 Vals.nil)) rfl ?_
      · have e := blk_new (w.alloc (.cells #[.string (s ++ b), .int .i64 ((n : Int) + (k : Int)), .int .i64 ((mv : Int) + (n : Int) + (k : Int))] 30)) (.cells #[.string (s ++ b), .int .i64 ((n : Int) + (k : Int)), .int .i64 ((mv : Int) + (n : Int) + (k : Int))] 30)
        rw [World.size_alloc] at e
        exact e
      · exact ⟨rfl, below_alloc (below_alloc (Below.refl _ _) _) _⟩
  · have d1a : decide (2 * (room : Int) < (n : Int) + (k : Int)) = false := decide_eq_false (by omega)
    have d1b : ¬ 2 * (room : Int) < (n : Int) + (k : Int) := by omega
    by_cases d2 : 2 * room < 16
    · have d2a : decide (2 * (room : Int) < 16) = true := decide_eq_true (by omega)
      have d2b : 2 * (room : Int) < 16 := by omega
      have hR : ((roomN room (n + k) : Nat) : Int) = 16 := by unfold roomN; omega
      rw [hR]
      clear hR
      go_enter Try.func14, Try.ntmps14
      go_wp2
      refine bodyPost_ret (results_single rfl (Vals.cell (w.heap.size + 1) 30 #[.string (s ++ b), .int .i64 16, .int .i64 ((mv : Int) + (n : Int) + (k : Int))] (0, 0) _ rfl ?_ Try.underlying30 rfl info30 Vals.nil)) rfl ?_
      · have e := blk_new (w.alloc (.cells #[.string (s ++ b), .int .i64 16, .int .i64 ((mv : Int) + (n : Int) + (k : Int))] 30)) (.cells #[.string (s ++ b), .int .i64 16, .int .i64 ((mv : Int) + (n : Int) + (k : Int))] 30)
        rw [World.size_alloc] at e
        exact e
      · exact ⟨rfl, below_alloc (below_alloc (Below.refl _ _) _) _⟩
    · have d2a : decide (2 * (room : Int) < 16) = false := decide_eq_false (by omega)
      have d2b : ¬ 2 * (room : Int) < 16 := by omega
      have hR : ((roomN room (n + k) : Nat) : Int) = 2 * (room : Int) := by unfold roomN; omega
      rw [hR]
      clear hR
      go_enter Try.func14, Try.ntmps14
      go_wp2
      refine bodyPost_ret (results_single rfl (Vals.cell (w.heap.size + 1) 30 #[.string (s ++ b), .int .i64 (2 * (room : Int)), .int .i64 ((mv : Int) + (n : Int) + (k : Int))] (0, 0) _ rfl ?_ Try.underlying30 rfl info30 Vals.nil)) rfl ?_
      · have e := blk_new (w.alloc (.cells #[.string (s ++ b), .int .i64 (2 * (room : Int)), .int .i64 ((mv : Int) + (n : Int) + (k : Int))] 30)) (.cells #[.string (s ++ b), .int .i64 (2 * (room : Int)), .int .i64 ((mv : Int) + (n : Int) + (k : Int))] 30)
        rw [World.size_alloc] at e
        exact e
      · exact ⟨rfl, below_alloc (below_alloc (Below.refl _ _) _) _⟩
/-- what was added before some act -/
def addedL (L : List S33) (n : Nat) : Nat := sumL ((L.take n).filter (fun x => !x.f0))
theorem added_le (L : List S33) (n : Nat) : addedL L n ≤ sumL (L.take n) := by
  unfold addedL
  induction L.take n with
  | nil => exact Nat.le_refl _
  | cons x l ih =>
    rw [List.filter_cons]
    split
    · simp only [sumL]; omega
    · simp only [sumL]; omega
theorem added_succ (L : List S33) (n : Nat) (h : n < L.length) : addedL L (n + 1) = addedL L n + (if L[n].f0 = true then 0 else L[n].f1.length) := by
  unfold addedL
  rw [List.take_succ_eq_append_getElem h, List.filter_append, sumL_app]
  cases hq : L[n].f0 <;> simp [hq, sumL]
theorem str_app (a b : List Int) : strOfNums (a ++ b) = strOfNums a ++ strOfNums b := by
  apply ByteArray.ext
  simp [strOfNums, ByteArray.data_append]
theorem ref_add (st : St) (l : List Int) (N : Nat) (h : Good st N) (hl : l.length ≤ 4000) (hN : N ≤ 4000) (w : World) :
    Calls Try.prog 14 #[.agg #[.string (strOfNums st.held), .int .i64 (st.room : Int), .int .i64 (st.mv : Int)], .string (strOfNums l)] w fun e w' => e = .returned (.agg #[.string (strOfNums (addS st l).held), .int .i64 ((addS st l).room : Int), .int .i64 ((addS st l).mv : Int)]) ∧ Below w.heap.size w w' := by
  have h1 := h.lo; have h2 := h.hi; have h3 := h.pot; have h4 := h.held; have h5 := h.room; have h6 := h.fit
  by_cases h0 : l.length = 0
  · have e : addS st l = st := by unfold addS; rw [if_pos h0]
    have e2 : strOfNums l = ⟨#[]⟩ := by rw [List.length_eq_zero_iff.mp h0]; decide +kernel
    rw [e, e2]
    exact ref_none _ _ _ w
  · rw [add_held, str_app]
    by_cases hf : st.held.length + l.length ≤ st.room
    · obtain ⟨q1, q2⟩ := add_fit st l hf
      rw [q1, q2]
      exact ref_fit _ _ st.held.length l.length st.room st.mv w (strOfNums_size _) (strOfNums_size _) (by omega) hf h5 (by omega)
    · obtain ⟨q1, q2⟩ := add_grow st l hf h6
      rw [q1, q2]
      have := ref_grow _ _ st.held.length l.length st.room st.mv w (strOfNums_size st.held) (strOfNums_size l) (by omega) hf (by omega) (by omega) h5 (by omega)
      rw [show ((st.mv + (st.held.length + l.length) : Nat) : Int) = (st.mv : Int) + (st.held.length : Int) + (l.length : Int) by omega]
      exact this
set_option maxHeartbeats 16000000 in
set_option maxRecDepth 100000 in
theorem plays_calls (A0 : Option Addr) (c0 : Nat) (l0 : List S33) (w : World) (hr0 : Kd.C k33 w A0 l0.length l0) (hc0 : l0.length ≤ c0) (hlen : l0.length < 8796093022208) :
    Calls Try.prog 3 #[.slice A0 l0.length c0] w fun e w' => e = .returned (.bool true) ∧ Below w.heap.size w w' := by
  obtain ⟨kf, r, hf, hfr⟩ := few_tot l0 hlen
  have HF := Aside0.mk (fun (W : World) (h : Kd.C k33 W A0 l0.length l0) => seinelaw18_few.calls kf A0 c0 l0 r W h hc0 hf)
  have HR := Aside0.mk hr0
  have HFR := Aside0.mk hfr
  have hfd := field40
  have hu40 := Try.underlying40
  clear hr0 hc0 hlen hf hfr
  go_enter Try.func3, Try.ntmps3
  go_wp2_with fail
  refine (Go.Proofs.Ytgaoopcfjbcahaa.Win.awake_calls _).mono ?_
  rintro e w1 ⟨rfl, hb1⟩
  have HB1 := Aside0.mk hb1
  clear hb1
  go_wp2_with fail
  refine (HF.out _ (Kd.C_below HR.out HB1.out)).mono ?_
  rintro e w2 ⟨rfl, hd⟩
  have HB2 := Aside0.mk (below_step HB1.out hd.below)
  clear hd HB1 HF
  cases r
  · go_wp2
    go_ret
    exact ⟨rfl, HB2.out⟩
  · have HS := Aside0.mk (HFR.out rfl)
    clear HFR
    go_wp2_with fail
    refine (meter_new _).mono ?_
    rintro e w3 ⟨rfl, rfl⟩
    go_wp2_with fail
    refine (window_new (some w2.heap.size) _).mono ?_
    rintro e w3 ⟨rfl, rfl⟩
    have HM := Aside0.mk (show MAt (w2.alloc (.cells #[.int .i64 0, .int .i64 0, .int .i64 0, .int .i64 0] 46)) (some w2.heap.size) 0 0 0 0 from fun g hg => by cases hg; exact blk_new w2 _)
    have HX := Aside0.mk (win_new HM.out)
    have HB3 := Aside0.mk (below_alloc (below_alloc HB2.out (.cells #[.int .i64 0, .int .i64 0, .int .i64 0, .int .i64 0] 46)) (.cells #[.pointer (mp (some w2.heap.size)), .slice none 0 0, .int .i64 0] 48))
    rw [World.size_alloc] at HX ⊢
    have HGE := Aside0.mk HB2.out.size
    have HWS0 := (show ((w2.alloc (.cells #[.int .i64 0, .int .i64 0, .int .i64 0, .int .i64 0] 46)).alloc (.cells #[.pointer (mp (some w2.heap.size)), .slice none 0 0, .int .i64 0] 48)).heap.size = w2.heap.size + 1 + 1 by rw [World.size_alloc, World.size_alloc])
    generalize hw3 : (w2.alloc (.cells #[.int .i64 0, .int .i64 0, .int .i64 0, .int .i64 0] 46)).alloc (.cells #[.pointer (mp (some w2.heap.size)), .slice none 0 0, .int .i64 0] 48) = w3 at HX HB3 HWS0 ⊢
    generalize w2.heap.size = gm at HX HGE HWS0 ⊢
    have HWS := Aside0.mk HWS0
    clear HWS0
    clear hw3 HM HB2
    have hz := zero30
    have hz40 := Go.Proofs.Ytgaoopcfjbcahaa.Win.zero40
    have hu30 := Try.underlying30
    have HXA : Aside0 (∀ k : Addr, (none : Option Addr) = some k → w.heap.size ≤ k.block ∧ k.block ≠ gm + 1 + 1) := ⟨fun k hk => by cases hk⟩
    have HX2 := Aside0.mk (HX.out.below (below_alloc (Below.refl _ _) (.cells #[.string ⟨#[]⟩, .int .i64 0, .int .i64 0] 30)))
    have HB4 := Aside0.mk (below_alloc HB3.out (.cells #[.string ⟨#[]⟩, .int .i64 0, .int .i64 0] 30))
    have HQ := Aside0.mk (blk_new w3 (.cells #[.string ⟨#[]⟩, .int .i64 0, .int .i64 0] 30))
    have HW3 := Aside0.mk HWS.out
    rw [HW3.out] at HQ
    go_wp2_with fail
    try simp only [HW3.out]
    have HX := HX2
    have hsn : (strOfNums newS.held) = ⟨#[]⟩ := by decide +kernel
    go_loopw [9] (fun v9 wr => ∃ (n : Nat) (Ax : Option Addr) (st : St), v9 = .int .i64 (n : Int) ∧ Aside0 (n ≤ l0.length) ∧ Aside0 (Win wr (gm + 1) (some gm) Ax st) ∧ Aside0 (Good st (addedL l0 n)) ∧ Aside0 (∀ k, Ax = some k → w.heap.size ≤ k.block ∧ k.block ≠ gm + 1 + 1) ∧ Aside0 (wr.heap[gm + 1 + 1]? = some (.cells #[.string (strOfNums st.held), .int .i64 (st.room : Int), .int .i64 (st.mv : Int)] 30 (0, 0))) ∧ Aside0 (Below w.heap.size w wr)) (fun v _ => l0.length - (intOf v).toNat)
    case atStart => exact ⟨0, none, newS, rfl, ⟨Nat.zero_le _⟩, HX2, ⟨good_new⟩, HXA, ⟨by rw [hsn]; exact HQ.out⟩, HB4⟩
    case round =>
      clear HX HX2 HXA HB3 HB4 HQ
      obtain ⟨n, Ax, st, rfl, HN, HX, HG, HXA, HQ, HB⟩ := hrel
      by_cases hlt : n < l0.length
      · have c0b0 : decide ((n : Int) < (l0.length : Int)) = true := decide_eq_true (by omega)
        have c0b1 : decide (n < l0.length) = true := decide_eq_true hlt
        have p1 : 0 ≤ (n : Int) := by omega
        have q1 : (n : Int) < (l0.length : Int) := by omega
        obtain ⟨ad, A1, c1, e1, hxa, hxb, hl1, hi1⟩ := at_T33 HR.out (n : Int) p1 q1
        cases e1
        have hx0 := (HB.out.cell (World.block_lt_of_cell? w _ hxa)).trans hxa
        have hx1 := (HB.out.cell (World.block_lt_of_cell? w _ hxb)).trans hxb
        rw [rdT l0 n hlt] at hx0 hx1 hl1 hi1
        have hsu := added_succ l0 n hlt
        have hsm := added_le l0 (n + 1)
        have hst := sum_take l0 (n + 1)
        have HAD := Aside0.mk (show addedL l0 (n + 1) ≤ 4000 by have := HS.out; omega)
        have HI := Aside0.mk hi1
        have hW := Aside0.mk (show wrap64 ((n : Int) + 1) = ((n + 1 : Nat) : Int) by have := HS.out; unfold wrap64; omega)
        have HLT := Aside0.mk hlt
        have HX1W := Aside0.mk hxb
        rw [rdT l0 n hlt, Int.toNat_natCast] at HX1W
        generalize l0[n] = x at hx0 hx1 hl1 hsu HI HX1W
        obtain ⟨x0, x1⟩ := x
        dsimp only at hx0 hx1 hl1 hsu HI HX1W
        rw [Int.toNat_natCast] at hx0 hx1
        clear hxa hxb hl1 hi1 hsm hst
        clear hlt
        cases x0
        · rw [if_neg Bool.false_ne_true] at hsu
          have HSU := Aside0.mk hsu
          have HIC := Aside0.mk (Kd.C_below HI.out HB.out)
          have HGA := Aside0.mk (good_add HG.out x1 (by have := HAD.out; omega))
          have hfr : 0 < x1.length → ∀ ad, A1 = some ad → ad.block < w.heap.size := fun hp => far_of HI.out hp
          have HFR := Aside0.mk hfr
          have hxlt := HX.out.lt
          have HRF := Aside0.mk (fun w => ref_add st x1 (addedL l0 n) HG.out (by have := HAD.out; omega) (by have := HAD.out; omega) w)
          have HQLT := Aside0.mk (blk_lt HQ.out)
          clear hsu hfr hxlt
          go_wp2_with fail
          refine (win_add HX.out A1 c1 w.heap.size x1 (by have := HGE.out; omega) (fun k hk => by cases hk; exact HGE.out) (fun k hk => (HXA.out k hk).1) HIC.out (fun hp ad e => by have hq := HFR.out hp ad e; have := HGE.out; exact ⟨by omega, fun hm => by injection hm with hm; omega⟩) (by have := HG.out.room; omega) (by have := HAD.out; have := HSU.out; omega) (by have := HG.out.hi; have := HAD.out; have := HSU.out; omega)).mono ?_
          rintro e w5 ⟨rfl, Ax5, hw, hao, hba, hkp, hbb⟩
          have HB5 := Aside0.mk (Below.trans HB.out hbb)
          have HX5 := Aside0.mk hw
          have HXA5 : Aside0 (∀ k : Addr, Ax5 = some k → w.heap.size ≤ k.block ∧ k.block ≠ gm + 1 + 1) := ⟨fun k hk => ⟨hba k hk, by
            rcases hao with h | ⟨gb, h, h2⟩
            · exact (HXA.out k (by rw [← h]; exact hk)).2
            · rw [h] at hk; cases hk; have := HQLT.out; show gb ≠ gm + 1 + 1; omega⟩⟩
          have HQ5 := Aside0.mk (blk_kept HQ.out hkp (fun hs => by rcases hs with hs | hs | ⟨ad, h1, h2⟩; omega; (injection hs with hs; omega); exact (HXA.out ad h1).2 h2))
          have HG5 := Aside0.mk (show Good (addS st x1) (addedL l0 (n + 1)) by rw [HSU.out]; exact HGA.out.1)
          generalize hst5 : addS st x1 = st5 at HX5 HG5 HRF
          clear hst5
          have hx1 := (HB5.out.cell (World.block_lt_of_cell? w _ HX1W.out)).trans HX1W.out
          clear hw hao hba hkp hbb HX HXA HB HQ hx0 HGA
          go_wp2_with fail
          refine (Go.Proofs.Ytgaoopcfjbcahaa.Win.add_none _ _ _ _).mono ?_
          rintro e w6 ⟨rfl, hb⟩
          have HB6 := Aside0.mk (below_step HB5.out hb)
          have HX6 := Aside0.mk (HX5.out.below hb)
          have HQ6 := Aside0.mk (blk_below HQ5.out hb)
          have hx1 := (HB6.out.cell (World.block_lt_of_cell? w _ HX1W.out)).trans HX1W.out
          have k0 := (blk_cell HQ6.out 0).trans (show _ = some (Value.string (strOfNums st.held)) from rfl)
          have k1 := (blk_cell HQ6.out 1).trans (show _ = some (Value.int .i64 (st.room : Int)) from rfl)
          have k2 := (blk_cell HQ6.out 2).trans (show _ = some (Value.int .i64 (st.mv : Int)) from rfl)
          have hcv := Kd.C_string (P := Try.prog) (A := A1) (c := c1) Try.underlying31 Try.underlying5 Try.underlying9 (Kd.C_below HI.out HB6.out.drew)
          clear hb HB5 HX5 HQ5
          go_wp2_with fail
          refine Go.Proofs.Ytgaoopcfjbcahaa.Win.wp_region_E (fun w' => w'.cell? ⟨gm + 1 + 1, 0, none⟩ = some (.string (strOfNums st.held)) ∧ w'.cell? ⟨gm + 1 + 1, 1, none⟩ = some (.int .i64 (st.room : Int)) ∧ w'.cell? ⟨gm + 1 + 1, 2, none⟩ = some (.int .i64 (st.mv : Int)) ∧ w'.cell? ⟨(ad.add (n * 2)).block, (ad.add (n * 2)).off + 1, none⟩ = some (.slice A1 x1.length c1) ∧ (convert 31 9 (.slice A1 x1.length c1)).run Try.prog w' = .ok (.string (strOfNums x1)) w') 8 (by kernel_rfl) ⟨k0, k1, k2, hx1, hcv⟩ (fun hHeld => ?_)
          refine Go.Proofs.Ytgaoopcfjbcahaa.Win.wpAnyE_take (i := 0) (oi := { dst := some 52, op := Op.load 30 (Operand.tmp 7), type := 30, pos := "law.go:63", after := #[], guard := none }) (v := ?_) [] (by kernel_rfl) rfl (by kernel_rfl) (by kernel_rfl) (by kernel_rfl) (fun _ _ _ h => h) (Or.inl ⟨by rfl, ?_⟩) (by assumption) ?_
          rotate_left 1
          · intro w hSw
            (try dsimp only at hSw)
            go_simp
            all_goals try with_reducible rfl
          try simp only [Act.put, List.setIfInBounds_toArray, List.set_cons_zero, List.set_cons_succ]
          refine Go.Proofs.Ytgaoopcfjbcahaa.Win.wpAnyE_take (i := 1) (oi := { dst := some 53, op := Op.move (Operand.tmp 0), type := 22, pos := "law.go:63", after := #[], guard := none }) (v := ?_) [] (by kernel_rfl) rfl (by kernel_rfl) (by kernel_rfl) (by kernel_rfl) (fun _ _ _ h => h) (Or.inl ⟨by rfl, ?_⟩) (by assumption) ?_
          rotate_left 1
          · intro w hSw
            (try dsimp only at hSw)
            go_simp
            all_goals try with_reducible rfl
          try simp only [Act.put, List.setIfInBounds_toArray, List.set_cons_zero, List.set_cons_succ]
          refine Go.Proofs.Ytgaoopcfjbcahaa.Win.wpAnyE_take (i := 2) (oi := { dst := some 54, op := Op.move (Operand.tmp 9), type := 3, pos := "law.go:63", after := #[], guard := none }) (v := ?_) [] (by kernel_rfl) rfl (by kernel_rfl) (by kernel_rfl) (by kernel_rfl) (fun _ _ _ h => h) (Or.inl ⟨by rfl, ?_⟩) (by assumption) ?_
          rotate_left 1
          · intro w hSw
            (try dsimp only at hSw)
            go_simp
            all_goals try with_reducible rfl
          try simp only [Act.put, List.setIfInBounds_toArray, List.set_cons_zero, List.set_cons_succ]
          refine Go.Proofs.Ytgaoopcfjbcahaa.Win.wpAnyE_take (i := 3) (oi := { dst := some 55, op := Op.indexAddr 22 (Operand.tmp 53) (Operand.tmp 54), type := 0, pos := "law.go:63", after := #[{ on := 1, ground := Ground.data }, { on := 2, ground := Ground.data }], guard := none }) (v := ?_) [] (by kernel_rfl) rfl (by kernel_rfl) (by kernel_rfl) (by kernel_rfl) (fun _ _ _ h => h) (Or.inl ⟨by rfl, ?_⟩) (by assumption) ?_
          rotate_left 1
          · intro w hSw
            (try dsimp only at hSw)
            go_simp
            all_goals try with_reducible rfl
          try simp only [Act.put, List.setIfInBounds_toArray, List.set_cons_zero, List.set_cons_succ]
          refine Go.Proofs.Ytgaoopcfjbcahaa.Win.wpAnyE_take (i := 4) (oi := { dst := some 56, op := Op.fieldAddr 33 (Operand.tmp 55) 1, type := 0, pos := "law.go:63", after := #[{ on := 3, ground := Ground.data }], guard := none }) (v := ?_) [] (by kernel_rfl) rfl (by kernel_rfl) (by kernel_rfl) (by kernel_rfl) (fun _ _ _ h => h) (Or.inl ⟨by rfl, ?_⟩) (by assumption) ?_
          rotate_left 1
          · intro w hSw
            (try dsimp only at hSw)
            go_simp
            all_goals try with_reducible rfl
          try simp only [Act.put, List.setIfInBounds_toArray, List.set_cons_zero, List.set_cons_succ]
          refine Go.Proofs.Ytgaoopcfjbcahaa.Win.wpAnyE_take (i := 5) (oi := { dst := some 57, op := Op.load 31 (Operand.tmp 56), type := 31, pos := "law.go:63", after := #[{ on := 4, ground := Ground.data }], guard := none }) (v := ?_) [] (by kernel_rfl) rfl (by kernel_rfl) (by kernel_rfl) (by kernel_rfl) (fun _ _ _ h => h) (Or.inl ⟨by rfl, ?_⟩) (by assumption) ?_
          rotate_left 1
          · intro w hSw
            (try dsimp only at hSw)
            go_simp
            all_goals try with_reducible rfl
          try simp only [Act.put, List.setIfInBounds_toArray, List.set_cons_zero, List.set_cons_succ]
          refine Go.Proofs.Ytgaoopcfjbcahaa.Win.wpAnyE_take (i := 6) (oi := { dst := some 58, op := Op.convert 31 9 (Operand.tmp 57), type := 9, pos := "law.go:63", after := #[{ on := 5, ground := Ground.data }], guard := none }) (v := ?_) [] (by kernel_rfl) rfl (by kernel_rfl) (by kernel_rfl) (by kernel_rfl) (fun _ _ _ h => h) (Or.inl ⟨by rfl, ?_⟩) (by assumption) ?_
          rotate_left 1
          · intro w hSw
            (try dsimp only at hSw)
            go_simp
            all_goals try with_reducible rfl
          try simp only [Act.put, List.setIfInBounds_toArray, List.set_cons_zero, List.set_cons_succ]
          refine Go.Proofs.Ytgaoopcfjbcahaa.Win.wpAnyE_one (i := 7) (o := { dst := some 59, op := Op.call { callee := Callee.value (Operand.func 14), args := #[Operand.tmp 52, Operand.tmp 58], argTypes := #[30, 9] }, type := 30, pos := "law.go:63", after := #[{ on := 0, ground := Ground.data }, { on := 6, ground := Ground.data }], guard := none }) (by kernel_rfl) rfl (fun K hK => ?_)
          clear hHeld
          go_simp
          refine (HRF.out _).mono ?_
          rintro e w7 ⟨rfl, hb⟩
          have HB6d := Aside0.mk HB6.out.drew
          have HB7 := Aside0.mk (below_step HB6d.out hb)
          have HX7 := Aside0.mk (Win.below (show Win w6.drew (gm + 1) (some gm) Ax5 st5 from HX6.out.below (Below.refl _ _).drew) hb)
          have HQ7 := Aside0.mk (blk_below (show w6.drew.heap[gm + 1 + 1]? = _ from HQ6.out) hb)
          clear k0 k1 k2 hx1 hcv
          have k0 := (blk_cell HQ7.out 0).trans (show _ = some (Value.string (strOfNums st.held)) from rfl)
          have k1 := (blk_cell HQ7.out 1).trans (show _ = some (Value.int .i64 (st.room : Int)) from rfl)
          have k2 := (blk_cell HQ7.out 2).trans (show _ = some (Value.int .i64 (st.mv : Int)) from rfl)
          have hx1 := (HB7.out.cell (World.block_lt_of_cell? w _ HX1W.out)).trans HX1W.out
          have hcv := Kd.C_string (P := Try.prog) (A := A1) (c := c1) Try.underlying31 Try.underlying5 Try.underlying9 (Kd.C_below HI.out HB7.out)
          refine hK.out _ _ ⟨k0, k1, k2, hx1, hcv⟩ (fun hHeld => ?_)
          clear hK K
          try simp only [Act.put, List.setIfInBounds_toArray, List.set_cons_zero, List.set_cons_succ]
          have f0 := blk_frozen HQ7.out 0
          have f1 := blk_frozen HQ7.out 1
          have f2 := blk_frozen HQ7.out 2
          refine Go.Proofs.Ytgaoopcfjbcahaa.Win.wpAnyE_last (o := { dst := none, op := Op.store 30 (Operand.tmp 7) (Operand.tmp 59), type := 0, pos := "law.go:63", after := #[{ on := 7, ground := Ground.data }, { on := 7, ground := Ground.chain }, { on := 0, ground := Ground.phase }, { on := 1, ground := Ground.phase }, { on := 2, ground := Ground.phase }, { on := 3, ground := Ground.phase }, { on := 4, ground := Ground.phase }, { on := 5, ground := Ground.phase }, { on := 6, ground := Ground.phase }, { on := 7, ground := Ground.phase }], guard := none }) (by kernel_rfl) rfl (fun K hK => ?_)
          clear hHeld
          go_simp
          refine hK.out _ _ ?_
          clear hK K
          refine Go.Proofs.Ytgaoopcfjbcahaa.Win.wpAnyE_done (by kernel_rfl) ?_ _
          try simp only [Act.put, List.setIfInBounds_toArray, List.set_cons_zero, List.set_cons_succ]
          have HQS := Aside0.mk (blk_set (blk_set (blk_set HQ7.out 0 (.string (strOfNums st5.held))) 1 (.int .i64 (st5.room : Int))) 2 (.int .i64 (st5.mv : Int)))
          have HXS := Aside0.mk (HX7.out.kept (Kept.setCell (S := fun k => k = gm + 1 + 1) (p := ⟨gm + 1 + 1, 2, none⟩) (Kept.setCell (S := fun k => k = gm + 1 + 1) (p := ⟨gm + 1 + 1, 1, none⟩) (Kept.setCell (S := fun k => k = gm + 1 + 1) (p := ⟨gm + 1 + 1, 0, none⟩) (Kept.refl _ _) (Or.inl rfl) (.string (strOfNums st5.held))) (Or.inl rfl) (.int .i64 (st5.room : Int))) (Or.inl rfl) (.int .i64 (st5.mv : Int))) (fun hs => by have hs2 : gm + 1 = gm + 1 + 1 := hs; omega) (fun k hk hs => by cases hk; have hs2 : gm = gm + 1 + 1 := hs; omega) (fun ad e => by have := HXA5.out ad e; exact this.2))
          have HBS := Aside0.mk (Below.setCell (p := ⟨gm + 1 + 1, 2, none⟩) (Below.setCell (p := ⟨gm + 1 + 1, 1, none⟩) (Below.setCell (p := ⟨gm + 1 + 1, 0, none⟩) HB7.out (by have := HGE.out; show w.heap.size ≤ gm + 1 + 1; omega) (.string (strOfNums st5.held))) (by have := HGE.out; show w.heap.size ≤ gm + 1 + 1; omega) (.int .i64 (st5.room : Int))) (by have := HGE.out; show w.heap.size ≤ gm + 1 + 1; omega) (.int .i64 (st5.mv : Int)))
          replace HQS : Aside0 ((((w7.setCell ⟨gm + 1 + 1, 0, none⟩ (.string (strOfNums st5.held))).setCell ⟨gm + 1 + 1, 1, none⟩ (.int .i64 (st5.room : Int))).setCell ⟨gm + 1 + 1, 2, none⟩ (.int .i64 (st5.mv : Int))).heap[gm + 1 + 1]? = some (Obj.cells #[.string (strOfNums st5.held), .int .i64 (st5.room : Int), .int .i64 (st5.mv : Int)] 30 (0, 0))) := ⟨HQS.out⟩
          clear k0 k1 k2 hx1 hcv f0 f1 f2 HQ7 HX7
          generalize ((w7.setCell ⟨gm + 1 + 1, 0, none⟩ (.string (strOfNums st5.held))).setCell ⟨gm + 1 + 1, 1, none⟩ (.int .i64 (st5.room : Int))).setCell ⟨gm + 1 + 1, 2, none⟩ (.int .i64 (st5.mv : Int)) = wz at HXS HQS HBS ⊢
          have HHS := Aside0.mk (show st5.room ≤ 10000 ∧ st5.held.length ≤ 10000 from ⟨HG5.out.room, by have := HG5.out.fit; have := HG5.out.room; omega⟩)
          have hsz : (strOfNums st5.held).size = st5.held.length := strOfNums_size _
          have k0 := (blk_cell HQS.out 0).trans (show _ = some (Value.string (strOfNums st5.held)) from rfl)
          have k1 := (blk_cell HQS.out 1).trans (show _ = some (Value.int .i64 (st5.room : Int)) from rfl)
          have k2 := (blk_cell HQS.out 2).trans (show _ = some (Value.int .i64 (st5.mv : Int)) from rfl)
          go_wp2_with fail
          have PB : Below wz.heap.size wz wz.drew := (Below.refl wz.heap.size wz).drew
          refine wp_region_held_drew (S := fun w' => w'.cell? ⟨gm + 1 + 1, 0, none⟩ = some (.string (strOfNums st5.held)) ∧ w'.cell? ⟨gm + 1 + 1, 1, none⟩ = some (.int .i64 (st5.room : Int)) ∧ w'.cell? ⟨gm + 1 + 1, 2, none⟩ = some (.int .i64 (st5.mv : Int))) (by kernel_rfl) ⟨k0, k1, k2⟩ (fun hHeld => ?_)
          refine wpAnyH_take (i := 0) (oi := { dst := some 60, op := Op.move (Operand.tmp 6), type := 27, pos := "law.go:65", after := #[], guard := none }) (v := ?_) rfl (by kernel_rfl) (by kernel_rfl) (by kernel_rfl) (fun _ _ _ h => h) (Or.inl ⟨by rfl, ?_⟩) (by assumption) ?_
          rotate_left 1
          · intro w hSw
            (try dsimp only at hSw)
            go_simp
            all_goals try with_reducible rfl
          try simp only [Act.put, List.setIfInBounds_toArray, List.set_cons_zero, List.set_cons_succ]
          refine wpAnyH_take (i := 3) (oi := { dst := some 63, op := Op.fieldAddr 30 (Operand.tmp 7) 0, type := 0, pos := "law.go:65", after := #[], guard := none }) (v := ?_) rfl (by kernel_rfl) (by kernel_rfl) (by kernel_rfl) (fun _ _ _ h => h) (Or.inl ⟨by rfl, ?_⟩) (by assumption) ?_
          rotate_left 1
          · intro w hSw
            (try dsimp only at hSw)
            go_simp
            all_goals try with_reducible rfl
          try simp only [Act.put, List.setIfInBounds_toArray, List.set_cons_zero, List.set_cons_succ]
          refine wpAnyH_take (i := 4) (oi := { dst := some 64, op := Op.load 9 (Operand.tmp 63), type := 9, pos := "law.go:65", after := #[{ on := 3, ground := Ground.data }], guard := none }) (v := ?_) rfl (by kernel_rfl) (by kernel_rfl) (by kernel_rfl) (fun _ _ _ h => h) (Or.inl ⟨by rfl, ?_⟩) (by assumption) ?_
          rotate_left 1
          · intro w hSw
            (try dsimp only at hSw)
            go_simp
            all_goals try with_reducible rfl
          try simp only [Act.put, List.setIfInBounds_toArray, List.set_cons_zero, List.set_cons_succ]
          refine wpAnyH_ready (rs := [1]) (by kernel_rfl) (by simp) ?_
          refine AllReadyH.cons (o := { dst := some 61, op := Op.call { callee := Callee.value (Operand.func 15), args := #[Operand.tmp 60], argTypes := #[27] }, type := 31, pos := "law.go:65", after := #[{ on := 0, ground := Ground.data }], guard := none }) rfl (fun K hK => ?_) AllReadyH.nil
          clear hHeld
          go_simp
          refine (win_bytes (HXS.out.below PB) (by have := HHS.out; omega)).mono ?_
          rintro e wj ⟨vb, rfl, hrb, hb'⟩
          obtain ⟨A4, c4, hv4, hd4, hC4⟩ := Kd.R_reads hrb
          subst hv4
          have hcv4 := Kd.C_string (P := Try.prog) (A := A4) (c := c4) Try.underlying31 Try.underlying5 Try.underlying9 hC4
          clear hrb hd4 hC4
          have PB' := below_step PB hb'
          clear PB k0 k1 k2
          have PB := PB'
          clear PB' hb'
          have k0 := (blk_cell (blk_below HQS.out PB) 0).trans (show _ = some (Value.string (strOfNums st5.held)) from rfl)
          have k1 := (blk_cell (blk_below HQS.out PB) 1).trans (show _ = some (Value.int .i64 (st5.room : Int)) from rfl)
          have k2 := (blk_cell (blk_below HQS.out PB) 2).trans (show _ = some (Value.int .i64 (st5.mv : Int)) from rfl)
          refine hK.out _ _ ⟨k0, k1, k2⟩ (fun hHeld => ?_)
          clear hK K
          try simp only [Act.put, List.setIfInBounds_toArray, List.set_cons_zero, List.set_cons_succ]
          refine wpAnyH_ready (rs := [2]) (by kernel_rfl) (by simp) ?_
          refine AllReadyH.cons (o := { dst := some 62, op := Op.convert 31 9 (Operand.tmp 61), type := 9, pos := "law.go:65", after := #[{ on := 1, ground := Ground.data }], guard := none }) rfl (fun K hK => ?_) AllReadyH.nil
          clear hHeld
          go_simp
          refine hK.out _ _ ⟨k0, k1, k2⟩ (fun hHeld => ?_)
          clear hK K
          try simp only [Act.put, List.setIfInBounds_toArray, List.set_cons_zero, List.set_cons_succ]
          refine wpAnyH_take (i := 5) (oi := { dst := some 65, op := Op.binOp BinOp.neq 9 (Operand.tmp 62) (Operand.tmp 64) 9, type := 4, pos := "law.go:65", after := #[{ on := 2, ground := Ground.data }, { on := 4, ground := Ground.data }], guard := none }) (v := ?_) rfl (by kernel_rfl) (by kernel_rfl) (by kernel_rfl) (fun _ _ _ h => h) (Or.inl ⟨by rfl, ?_⟩) (by assumption) ?_
          rotate_left 1
          · intro w hSw
            (try dsimp only at hSw)
            go_simp
            all_goals try with_reducible rfl
          try simp only [Act.put, List.setIfInBounds_toArray, List.set_cons_zero, List.set_cons_succ]
          refine wpAnyH_take (i := 6) (oi := { dst := some 66, op := Op.move (Operand.tmp 65), type := 4, pos := "law.go:65", after := #[{ on := 5, ground := Ground.data }, { on := 1, ground := Ground.chain }], guard := none }) (v := ?_) rfl (by kernel_rfl) (by kernel_rfl) (by kernel_rfl) (fun _ _ _ h => h) (Or.inl ⟨by rfl, ?_⟩) (by assumption) ?_
          rotate_left 1
          · intro w hSw
            (try dsimp only at hSw)
            go_simp
            all_goals try with_reducible rfl
          try simp only [Act.put, List.setIfInBounds_toArray, List.set_cons_zero, List.set_cons_succ]
          refine wpAnyH_take (i := 7) (oi := { dst := some 67, op := Op.move (Operand.tmp 6), type := 27, pos := "law.go:65", after := #[{ on := 6, ground := Ground.guard }], guard := some (6, false) }) (v := ?_) rfl (by kernel_rfl) (by kernel_rfl) (by kernel_rfl) (fun _ _ _ h => h) (Or.inl ⟨by go_simp, ?_⟩) (by assumption) ?_
          rotate_left 1
          · intro w hSw
            (try dsimp only at hSw)
            go_simp
            all_goals try with_reducible rfl
          try simp only [Act.put, List.setIfInBounds_toArray, List.set_cons_zero, List.set_cons_succ]
          refine wpAnyH_take (i := 9) (oi := { dst := some 69, op := Op.fieldAddr 30 (Operand.tmp 7) 0, type := 0, pos := "law.go:65", after := #[{ on := 6, ground := Ground.guard }], guard := some (6, false) }) (v := ?_) rfl (by kernel_rfl) (by kernel_rfl) (by kernel_rfl) (fun _ _ _ h => h) (Or.inl ⟨by go_simp, ?_⟩) (by assumption) ?_
          rotate_left 1
          · intro w hSw
            (try dsimp only at hSw)
            go_simp
            all_goals try with_reducible rfl
          try simp only [Act.put, List.setIfInBounds_toArray, List.set_cons_zero, List.set_cons_succ]
          refine wpAnyH_take (i := 10) (oi := { dst := some 70, op := Op.load 9 (Operand.tmp 69), type := 9, pos := "law.go:65", after := #[{ on := 9, ground := Ground.data }, { on := 6, ground := Ground.guard }], guard := some (6, false) }) (v := ?_) rfl (by kernel_rfl) (by kernel_rfl) (by kernel_rfl) (fun _ _ _ h => h) (Or.inl ⟨by go_simp, ?_⟩) (by assumption) ?_
          rotate_left 1
          · intro w hSw
            (try dsimp only at hSw)
            go_simp
            all_goals try with_reducible rfl
          try simp only [Act.put, List.setIfInBounds_toArray, List.set_cons_zero, List.set_cons_succ]
          refine wpAnyH_take (i := 11) (oi := { dst := some 71, op := Op.call { callee := Callee.builtin Builtin.len, args := #[Operand.tmp 70], argTypes := #[9] }, type := 3, pos := "law.go:65", after := #[{ on := 10, ground := Ground.data }, { on := 6, ground := Ground.guard }], guard := some (6, false) }) (v := ?_) rfl (by kernel_rfl) (by kernel_rfl) (by kernel_rfl) (fun _ _ _ h => h) (Or.inl ⟨by go_simp, ?_⟩) (by assumption) ?_
          rotate_left 1
          · intro w hSw
            (try dsimp only at hSw)
            go_simp
            all_goals try with_reducible rfl
          try simp only [Act.put, List.setIfInBounds_toArray, List.set_cons_zero, List.set_cons_succ]
          refine wpAnyH_ready (rs := [8]) (by kernel_rfl) (by simp) ?_
          refine AllReadyH.cons (o := { dst := some 68, op := Op.call { callee := Callee.value (Operand.func 16), args := #[Operand.tmp 67], argTypes := #[27] }, type := 3, pos := "law.go:65", after := #[{ on := 7, ground := Ground.data }, { on := 6, ground := Ground.chain }, { on := 6, ground := Ground.guard }], guard := some (6, false) }) rfl (fun K hK => ?_) AllReadyH.nil
          clear hHeld
          go_simp
          refine (win_len (HXS.out.below PB)).mono ?_
          rintro e wj ⟨rfl, hb'⟩
          have PB' := below_step PB hb'
          clear PB k0 k1 k2
          have PB := PB'
          clear PB' hb'
          have k0 := (blk_cell (blk_below HQS.out PB) 0).trans (show _ = some (Value.string (strOfNums st5.held)) from rfl)
          have k1 := (blk_cell (blk_below HQS.out PB) 1).trans (show _ = some (Value.int .i64 (st5.room : Int)) from rfl)
          have k2 := (blk_cell (blk_below HQS.out PB) 2).trans (show _ = some (Value.int .i64 (st5.mv : Int)) from rfl)
          refine hK.out _ _ ⟨k0, k1, k2⟩ (fun hHeld => ?_)
          clear hK K
          try simp only [Act.put, List.setIfInBounds_toArray, List.set_cons_zero, List.set_cons_succ]
          refine wpAnyH_take (i := 12) (oi := { dst := some 72, op := Op.binOp BinOp.neq 3 (Operand.tmp 68) (Operand.tmp 71) 3, type := 4, pos := "law.go:65", after := #[{ on := 8, ground := Ground.data }, { on := 11, ground := Ground.data }, { on := 6, ground := Ground.guard }], guard := some (6, false) }) (v := ?_) rfl (by kernel_rfl) (by kernel_rfl) (by kernel_rfl) (fun _ _ _ h => h) (Or.inl ⟨by go_simp, ?_⟩) (by assumption) ?_
          rotate_left 1
          · intro w hSw
            (try dsimp only at hSw)
            go_simp
            all_goals try with_reducible rfl
          try simp only [Act.put, List.setIfInBounds_toArray, List.set_cons_zero, List.set_cons_succ]
          refine wpAnyH_take (i := 13) (oi := { dst := some 73, op := Op.pick (Operand.tmp 66) (Operand.const (Value.bool true)) (Operand.tmp 72), type := 4, pos := "law.go:65", after := #[{ on := 6, ground := Ground.data }, { on := 12, ground := Ground.data }], guard := none }) (v := ?_) rfl (by kernel_rfl) (by kernel_rfl) (by kernel_rfl) (fun _ _ _ h => h) (Or.inl ⟨by rfl, ?_⟩) (by assumption) ?_
          rotate_left 1
          · intro w hSw
            (try dsimp only at hSw)
            go_simp
            all_goals try with_reducible rfl
          try simp only [Act.put, List.setIfInBounds_toArray, List.set_cons_zero, List.set_cons_succ]
          refine wpAnyH_take (i := 14) (oi := { dst := some 74, op := Op.move (Operand.tmp 73), type := 4, pos := "law.go:65", after := #[{ on := 13, ground := Ground.data }, { on := 8, ground := Ground.chain }], guard := none }) (v := ?_) rfl (by kernel_rfl) (by kernel_rfl) (by kernel_rfl) (fun _ _ _ h => h) (Or.inl ⟨by rfl, ?_⟩) (by assumption) ?_
          rotate_left 1
          · intro w hSw
            (try dsimp only at hSw)
            go_simp
            all_goals try with_reducible rfl
          try simp only [Act.put, List.setIfInBounds_toArray, List.set_cons_zero, List.set_cons_succ]
          refine wpAnyH_take (i := 15) (oi := { dst := some 75, op := Op.move (Operand.tmp 6), type := 27, pos := "law.go:65", after := #[{ on := 14, ground := Ground.guard }], guard := some (14, false) }) (v := ?_) rfl (by kernel_rfl) (by kernel_rfl) (by kernel_rfl) (fun _ _ _ h => h) (Or.inl ⟨by go_simp, ?_⟩) (by assumption) ?_
          rotate_left 1
          · intro w hSw
            (try dsimp only at hSw)
            go_simp
            all_goals try with_reducible rfl
          try simp only [Act.put, List.setIfInBounds_toArray, List.set_cons_zero, List.set_cons_succ]
          refine wpAnyH_take (i := 17) (oi := { dst := some 77, op := Op.fieldAddr 30 (Operand.tmp 7) 1, type := 0, pos := "law.go:65", after := #[{ on := 14, ground := Ground.guard }], guard := some (14, false) }) (v := ?_) rfl (by kernel_rfl) (by kernel_rfl) (by kernel_rfl) (fun _ _ _ h => h) (Or.inl ⟨by go_simp, ?_⟩) (by assumption) ?_
          rotate_left 1
          · intro w hSw
            (try dsimp only at hSw)
            go_simp
            all_goals try with_reducible rfl
          try simp only [Act.put, List.setIfInBounds_toArray, List.set_cons_zero, List.set_cons_succ]
          refine wpAnyH_take (i := 18) (oi := { dst := some 78, op := Op.load 3 (Operand.tmp 77), type := 3, pos := "law.go:65", after := #[{ on := 17, ground := Ground.data }, { on := 14, ground := Ground.guard }], guard := some (14, false) }) (v := ?_) rfl (by kernel_rfl) (by kernel_rfl) (by kernel_rfl) (fun _ _ _ h => h) (Or.inl ⟨by go_simp, ?_⟩) (by assumption) ?_
          rotate_left 1
          · intro w hSw
            (try dsimp only at hSw)
            go_simp
            all_goals try with_reducible rfl
          try simp only [Act.put, List.setIfInBounds_toArray, List.set_cons_zero, List.set_cons_succ]
          refine wpAnyH_ready (rs := [16]) (by kernel_rfl) (by simp) ?_
          refine AllReadyH.cons (o := { dst := some 76, op := Op.call { callee := Callee.value (Operand.func 17), args := #[Operand.tmp 75], argTypes := #[27] }, type := 3, pos := "law.go:65", after := #[{ on := 15, ground := Ground.data }, { on := 14, ground := Ground.chain }, { on := 14, ground := Ground.guard }], guard := some (14, false) }) rfl (fun K hK => ?_) AllReadyH.nil
          clear hHeld
          go_simp
          refine (win_room (HXS.out.below PB)).mono ?_
          rintro e wj ⟨rfl, hb'⟩
          have PB' := below_step PB hb'
          clear PB k0 k1 k2
          have PB := PB'
          clear PB' hb'
          have k0 := (blk_cell (blk_below HQS.out PB) 0).trans (show _ = some (Value.string (strOfNums st5.held)) from rfl)
          have k1 := (blk_cell (blk_below HQS.out PB) 1).trans (show _ = some (Value.int .i64 (st5.room : Int)) from rfl)
          have k2 := (blk_cell (blk_below HQS.out PB) 2).trans (show _ = some (Value.int .i64 (st5.mv : Int)) from rfl)
          refine hK.out _ _ ⟨k0, k1, k2⟩ (fun hHeld => ?_)
          clear hK K
          try simp only [Act.put, List.setIfInBounds_toArray, List.set_cons_zero, List.set_cons_succ]
          refine wpAnyH_take (i := 19) (oi := { dst := some 79, op := Op.binOp BinOp.neq 3 (Operand.tmp 76) (Operand.tmp 78) 3, type := 4, pos := "law.go:65", after := #[{ on := 16, ground := Ground.data }, { on := 18, ground := Ground.data }, { on := 14, ground := Ground.guard }], guard := some (14, false) }) (v := ?_) rfl (by kernel_rfl) (by kernel_rfl) (by kernel_rfl) (fun _ _ _ h => h) (Or.inl ⟨by go_simp, ?_⟩) (by assumption) ?_
          rotate_left 1
          · intro w hSw
            (try dsimp only at hSw)
            go_simp
            all_goals try with_reducible rfl
          try simp only [Act.put, List.setIfInBounds_toArray, List.set_cons_zero, List.set_cons_succ]
          refine wpAnyH_take (i := 20) (oi := { dst := some 80, op := Op.pick (Operand.tmp 74) (Operand.const (Value.bool true)) (Operand.tmp 79), type := 4, pos := "law.go:65", after := #[{ on := 14, ground := Ground.data }, { on := 19, ground := Ground.data }], guard := none }) (v := ?_) rfl (by kernel_rfl) (by kernel_rfl) (by kernel_rfl) (fun _ _ _ h => h) (Or.inl ⟨by rfl, ?_⟩) (by assumption) ?_
          rotate_left 1
          · intro w hSw
            (try dsimp only at hSw)
            go_simp
            all_goals try with_reducible rfl
          try simp only [Act.put, List.setIfInBounds_toArray, List.set_cons_zero, List.set_cons_succ]
          refine wpAnyH_take (i := 21) (oi := { dst := some 81, op := Op.move (Operand.tmp 80), type := 4, pos := "law.go:65", after := #[{ on := 20, ground := Ground.data }, { on := 16, ground := Ground.chain }], guard := none }) (v := ?_) rfl (by kernel_rfl) (by kernel_rfl) (by kernel_rfl) (fun _ _ _ h => h) (Or.inl ⟨by rfl, ?_⟩) (by assumption) ?_
          rotate_left 1
          · intro w hSw
            (try dsimp only at hSw)
            go_simp
            all_goals try with_reducible rfl
          try simp only [Act.put, List.setIfInBounds_toArray, List.set_cons_zero, List.set_cons_succ]
          refine wpAnyH_take (i := 22) (oi := { dst := some 82, op := Op.move (Operand.tmp 5), type := 25, pos := "law.go:65", after := #[{ on := 21, ground := Ground.guard }], guard := some (21, false) }) (v := ?_) rfl (by kernel_rfl) (by kernel_rfl) (by kernel_rfl) (fun _ _ _ h => h) (Or.inl ⟨by go_simp, ?_⟩) (by assumption) ?_
          rotate_left 1
          · intro w hSw
            (try dsimp only at hSw)
            go_simp
            all_goals try with_reducible rfl
          try simp only [Act.put, List.setIfInBounds_toArray, List.set_cons_zero, List.set_cons_succ]
          refine wpAnyH_take (i := 24) (oi := { dst := some 84, op := Op.fieldAddr 30 (Operand.tmp 7) 2, type := 0, pos := "law.go:65", after := #[{ on := 21, ground := Ground.guard }], guard := some (21, false) }) (v := ?_) rfl (by kernel_rfl) (by kernel_rfl) (by kernel_rfl) (fun _ _ _ h => h) (Or.inl ⟨by go_simp, ?_⟩) (by assumption) ?_
          rotate_left 1
          · intro w hSw
            (try dsimp only at hSw)
            go_simp
            all_goals try with_reducible rfl
          try simp only [Act.put, List.setIfInBounds_toArray, List.set_cons_zero, List.set_cons_succ]
          refine wpAnyH_take (i := 25) (oi := { dst := some 85, op := Op.load 3 (Operand.tmp 84), type := 3, pos := "law.go:65", after := #[{ on := 24, ground := Ground.data }, { on := 21, ground := Ground.guard }], guard := some (21, false) }) (v := ?_) rfl (by kernel_rfl) (by kernel_rfl) (by kernel_rfl) (fun _ _ _ h => h) (Or.inl ⟨by go_simp, ?_⟩) (by assumption) ?_
          rotate_left 1
          · intro w hSw
            (try dsimp only at hSw)
            go_simp
            all_goals try with_reducible rfl
          try simp only [Act.put, List.setIfInBounds_toArray, List.set_cons_zero, List.set_cons_succ]
          refine wpAnyH_take (i := 26) (oi := { dst := some 86, op := Op.build 40 #[(3, Operand.tmp 85)], type := 40, pos := "law.go:65", after := #[{ on := 25, ground := Ground.data }, { on := 21, ground := Ground.guard }], guard := some (21, false) }) (v := ?_) rfl (by kernel_rfl) (by kernel_rfl) (by kernel_rfl) (fun _ _ _ h => h) (Or.inl ⟨by go_simp, ?_⟩) (by assumption) ?_
          rotate_left 1
          · intro w hSw
            (try dsimp only at hSw)
            go_simp
            all_goals try with_reducible rfl
          try simp only [Act.put, List.setIfInBounds_toArray, List.set_cons_zero, List.set_cons_succ]
          refine wpAnyH_ready (rs := [23]) (by kernel_rfl) (by simp) ?_
          refine AllReadyH.cons (o := { dst := some 83, op := Op.call { callee := Callee.value (Operand.func 18), args := #[Operand.tmp 82], argTypes := #[25] }, type := 40, pos := "law.go:65", after := #[{ on := 22, ground := Ground.data }, { on := 21, ground := Ground.chain }, { on := 21, ground := Ground.guard }], guard := some (21, false) }) rfl (fun K hK => ?_) AllReadyH.nil
          clear hHeld
          go_simp
          refine (win_counts (HXS.out.below PB)).mono ?_
          rintro e wj ⟨rfl, hb'⟩
          have PB' := below_step PB hb'
          clear PB k0 k1 k2
          have PB := PB'
          clear PB' hb'
          have k0 := (blk_cell (blk_below HQS.out PB) 0).trans (show _ = some (Value.string (strOfNums st5.held)) from rfl)
          have k1 := (blk_cell (blk_below HQS.out PB) 1).trans (show _ = some (Value.int .i64 (st5.room : Int)) from rfl)
          have k2 := (blk_cell (blk_below HQS.out PB) 2).trans (show _ = some (Value.int .i64 (st5.mv : Int)) from rfl)
          refine hK.out _ _ ⟨k0, k1, k2⟩ (fun hHeld => ?_)
          clear hK K
          try simp only [Act.put, List.setIfInBounds_toArray, List.set_cons_zero, List.set_cons_succ]
          refine wpAnyH_take (i := 27) (oi := { dst := some 87, op := Op.binOp BinOp.neq 40 (Operand.tmp 83) (Operand.tmp 86) 40, type := 4, pos := "law.go:65", after := #[{ on := 23, ground := Ground.data }, { on := 26, ground := Ground.data }, { on := 21, ground := Ground.guard }], guard := some (21, false) }) (v := ?_) rfl (by kernel_rfl) (by kernel_rfl) (by kernel_rfl) (fun _ _ _ h => h) (Or.inl ⟨by go_simp, ?_⟩) (by assumption) ?_
          rotate_left 1
          · intro w hSw
            (try dsimp only at hSw)
            go_simp
            all_goals try with_reducible rfl
          try simp only [Act.put, List.setIfInBounds_toArray, List.set_cons_zero, List.set_cons_succ]
          refine wpAnyH_take (i := 28) (oi := { dst := some 88, op := Op.pick (Operand.tmp 81) (Operand.const (Value.bool true)) (Operand.tmp 87), type := 4, pos := "law.go:65", after := #[{ on := 21, ground := Ground.data }, { on := 27, ground := Ground.data }], guard := none }) (v := ?_) rfl (by kernel_rfl) (by kernel_rfl) (by kernel_rfl) (fun _ _ _ h => h) (Or.inl ⟨by rfl, ?_⟩) (by assumption) ?_
          rotate_left 1
          · intro w hSw
            (try dsimp only at hSw)
            go_simp
            all_goals try with_reducible rfl
          try simp only [Act.put, List.setIfInBounds_toArray, List.set_cons_zero, List.set_cons_succ]
          refine wpAnyH_done (by kernel_rfl) ?_ _
          go_wp2
          go_roundw
          case rel => exact ⟨n + 1, Ax5, st5, by first | exact congrArg (Value.int .i64) hW.out | rfl, ⟨HLT.out⟩, ⟨HXS.out.below PB⟩, HG5, HXA5, ⟨blk_below HQS.out PB⟩, ⟨below_step HBS.out PB⟩⟩
          case measure => have := HLT.out; (try rw [hW.out]); simp [intOf]; omega
        · have HSU := Aside0.mk (show addedL l0 (n + 1) = addedL l0 n by simpa using hsu)
          have HGA := Aside0.mk (good_clear HG.out)
          clear hsu
          go_wp2_with fail
          refine (win_clear HX.out w.heap.size (by have := HGE.out; omega)).mono ?_
          rintro e w5 ⟨rfl, hw, hkp, hbb⟩
          have HB5 := Aside0.mk (Below.trans HB.out hbb)
          have HX5 := Aside0.mk hw
          have HQ5 := Aside0.mk (blk_kept HQ.out hkp (by show ¬ gm + 1 + 1 = gm + 1; omega))
          have HXA5 := HXA
          have HG5 := Aside0.mk (show Good (clearS st) (addedL l0 (n + 1)) by rw [HSU.out]; exact HGA.out)
          clear hw hkp hbb HX HB HQ hx0 hx1 HXA
          go_wp2_with fail
          refine (Go.Proofs.Ytgaoopcfjbcahaa.Win.clear_none _).mono ?_
          rintro e w6 ⟨rfl, hb⟩
          have HB6 := Aside0.mk (below_step HB5.out hb)
          have HX6 := Aside0.mk (HX5.out.below hb)
          have HQ6 := Aside0.mk (blk_below HQ5.out hb)
          have k0 := (blk_cell HQ6.out 0).trans (show _ = some (Value.string (strOfNums st.held)) from rfl)
          have k1 := (blk_cell HQ6.out 1).trans (show _ = some (Value.int .i64 (st.room : Int)) from rfl)
          have k2 := (blk_cell HQ6.out 2).trans (show _ = some (Value.int .i64 (st.mv : Int)) from rfl)
          clear hb HB5 HX5 HQ5
          go_wp2_with fail
          refine (seineref18_Clear.calls _ _ _ _ _ _ _ rfl).mono ?_
          rintro e w7 ⟨rfl, hb⟩
          have HB7 := Aside0.mk (below_step HB6.out hb)
          have HX7 := Aside0.mk (HX6.out.below hb)
          have HQ7 := Aside0.mk (blk_below HQ6.out hb)
          clear hb HB6 HX6 HQ6 k0 k1 k2
          have k0 := (blk_cell HQ7.out 0).trans (show _ = some (Value.string (strOfNums st.held)) from rfl)
          have k1 := (blk_cell HQ7.out 1).trans (show _ = some (Value.int .i64 (st.room : Int)) from rfl)
          have k2 := (blk_cell HQ7.out 2).trans (show _ = some (Value.int .i64 (st.mv : Int)) from rfl)
          have f0 := blk_frozen HQ7.out 0
          have f1 := blk_frozen HQ7.out 1
          have f2 := blk_frozen HQ7.out 2
          have HQS := Aside0.mk (blk_set (blk_set (blk_set HQ7.out 0 (.string ⟨#[]⟩)) 1 (.int .i64 (st.room : Int))) 2 (.int .i64 (st.mv : Int)))
          have HXS := Aside0.mk (HX7.out.kept (Kept.setCell (S := fun k => k = gm + 1 + 1) (p := ⟨gm + 1 + 1, 2, none⟩) (Kept.setCell (S := fun k => k = gm + 1 + 1) (p := ⟨gm + 1 + 1, 1, none⟩) (Kept.setCell (S := fun k => k = gm + 1 + 1) (p := ⟨gm + 1 + 1, 0, none⟩) (Kept.refl _ _) (Or.inl rfl) (.string ⟨#[]⟩)) (Or.inl rfl) (.int .i64 (st.room : Int))) (Or.inl rfl) (.int .i64 (st.mv : Int))) (fun hs => by have hs2 : gm + 1 = gm + 1 + 1 := hs; omega) (fun k hk hs => by cases hk; have hs2 : gm = gm + 1 + 1 := hs; omega) (fun ad e => by have := HXA5.out ad e; exact this.2))
          have HBS := Aside0.mk (Below.setCell (p := ⟨gm + 1 + 1, 2, none⟩) (Below.setCell (p := ⟨gm + 1 + 1, 1, none⟩) (Below.setCell (p := ⟨gm + 1 + 1, 0, none⟩) HB7.out (by have := HGE.out; show w.heap.size ≤ gm + 1 + 1; omega) (.string ⟨#[]⟩)) (by have := HGE.out; show w.heap.size ≤ gm + 1 + 1; omega) (.int .i64 (st.room : Int))) (by have := HGE.out; show w.heap.size ≤ gm + 1 + 1; omega) (.int .i64 (st.mv : Int)))
          have HEQ := Aside0.mk (show strOfNums (clearS st).held = ⟨#[]⟩ by show strOfNums [] = _; decide +kernel)
          replace HQS : Aside0 ((((w7.setCell ⟨gm + 1 + 1, 0, none⟩ (.string ⟨#[]⟩)).setCell ⟨gm + 1 + 1, 1, none⟩ (.int .i64 (st.room : Int))).setCell ⟨gm + 1 + 1, 2, none⟩ (.int .i64 (st.mv : Int))).heap[gm + 1 + 1]? = some (Obj.cells #[.string (strOfNums (clearS st).held), .int .i64 ((clearS st).room : Int), .int .i64 ((clearS st).mv : Int)] 30 (0, 0))) := ⟨by rw [HEQ.out]; exact HQS.out⟩
          generalize hst5 : clearS st = st5 at HXS HQS HG5
          clear hst5 HEQ k0 k1 k2
          have k0 := (blk_cell HQ7.out 0).trans (show _ = some (Value.string (strOfNums st.held)) from rfl)
          have k1 := (blk_cell HQ7.out 1).trans (show _ = some (Value.int .i64 (st.room : Int)) from rfl)
          have k2 := (blk_cell HQ7.out 2).trans (show _ = some (Value.int .i64 (st.mv : Int)) from rfl)
          go_wp2_with fail
          clear k0 k1 k2 f0 f1 f2
          generalize ((w7.setCell ⟨gm + 1 + 1, 0, none⟩ (.string ⟨#[]⟩)).setCell ⟨gm + 1 + 1, 1, none⟩ (.int .i64 (st.room : Int))).setCell ⟨gm + 1 + 1, 2, none⟩ (.int .i64 (st.mv : Int)) = wz at HXS HQS HBS ⊢
          have HHS := Aside0.mk (show st5.room ≤ 10000 ∧ st5.held.length ≤ 10000 from ⟨HG5.out.room, by have := HG5.out.fit; have := HG5.out.room; omega⟩)
          have hsz : (strOfNums st5.held).size = st5.held.length := strOfNums_size _
          have k0 := (blk_cell HQS.out 0).trans (show _ = some (Value.string (strOfNums st5.held)) from rfl)
          have k1 := (blk_cell HQS.out 1).trans (show _ = some (Value.int .i64 (st5.room : Int)) from rfl)
          have k2 := (blk_cell HQS.out 2).trans (show _ = some (Value.int .i64 (st5.mv : Int)) from rfl)
          have PB : Below wz.heap.size wz wz.drew := (Below.refl wz.heap.size wz).drew
          refine wp_region_held_drew (S := fun w' => w'.cell? ⟨gm + 1 + 1, 0, none⟩ = some (.string (strOfNums st5.held)) ∧ w'.cell? ⟨gm + 1 + 1, 1, none⟩ = some (.int .i64 (st5.room : Int)) ∧ w'.cell? ⟨gm + 1 + 1, 2, none⟩ = some (.int .i64 (st5.mv : Int))) (by kernel_rfl) ⟨k0, k1, k2⟩ (fun hHeld => ?_)
          refine wpAnyH_take (i := 0) (oi := { dst := some 60, op := Op.move (Operand.tmp 6), type := 27, pos := "law.go:65", after := #[], guard := none }) (v := ?_) rfl (by kernel_rfl) (by kernel_rfl) (by kernel_rfl) (fun _ _ _ h => h) (Or.inl ⟨by rfl, ?_⟩) (by assumption) ?_
          rotate_left 1
          · intro w hSw
            (try dsimp only at hSw)
            go_simp
            all_goals try with_reducible rfl
          try simp only [Act.put, List.setIfInBounds_toArray, List.set_cons_zero, List.set_cons_succ]
          refine wpAnyH_take (i := 3) (oi := { dst := some 63, op := Op.fieldAddr 30 (Operand.tmp 7) 0, type := 0, pos := "law.go:65", after := #[], guard := none }) (v := ?_) rfl (by kernel_rfl) (by kernel_rfl) (by kernel_rfl) (fun _ _ _ h => h) (Or.inl ⟨by rfl, ?_⟩) (by assumption) ?_
          rotate_left 1
          · intro w hSw
            (try dsimp only at hSw)
            go_simp
            all_goals try with_reducible rfl
          try simp only [Act.put, List.setIfInBounds_toArray, List.set_cons_zero, List.set_cons_succ]
          refine wpAnyH_take (i := 4) (oi := { dst := some 64, op := Op.load 9 (Operand.tmp 63), type := 9, pos := "law.go:65", after := #[{ on := 3, ground := Ground.data }], guard := none }) (v := ?_) rfl (by kernel_rfl) (by kernel_rfl) (by kernel_rfl) (fun _ _ _ h => h) (Or.inl ⟨by rfl, ?_⟩) (by assumption) ?_
          rotate_left 1
          · intro w hSw
            (try dsimp only at hSw)
            go_simp
            all_goals try with_reducible rfl
          try simp only [Act.put, List.setIfInBounds_toArray, List.set_cons_zero, List.set_cons_succ]
          refine wpAnyH_ready (rs := [1]) (by kernel_rfl) (by simp) ?_
          refine AllReadyH.cons (o := { dst := some 61, op := Op.call { callee := Callee.value (Operand.func 15), args := #[Operand.tmp 60], argTypes := #[27] }, type := 31, pos := "law.go:65", after := #[{ on := 0, ground := Ground.data }], guard := none }) rfl (fun K hK => ?_) AllReadyH.nil
          clear hHeld
          go_simp
          refine (win_bytes (HXS.out.below PB) (by have := HHS.out; omega)).mono ?_
          rintro e wj ⟨vb, rfl, hrb, hb'⟩
          obtain ⟨A4, c4, hv4, hd4, hC4⟩ := Kd.R_reads hrb
          subst hv4
          have hcv4 := Kd.C_string (P := Try.prog) (A := A4) (c := c4) Try.underlying31 Try.underlying5 Try.underlying9 hC4
          clear hrb hd4 hC4
          have PB' := below_step PB hb'
          clear PB k0 k1 k2
          have PB := PB'
          clear PB' hb'
          have k0 := (blk_cell (blk_below HQS.out PB) 0).trans (show _ = some (Value.string (strOfNums st5.held)) from rfl)
          have k1 := (blk_cell (blk_below HQS.out PB) 1).trans (show _ = some (Value.int .i64 (st5.room : Int)) from rfl)
          have k2 := (blk_cell (blk_below HQS.out PB) 2).trans (show _ = some (Value.int .i64 (st5.mv : Int)) from rfl)
          refine hK.out _ _ ⟨k0, k1, k2⟩ (fun hHeld => ?_)
          clear hK K
          try simp only [Act.put, List.setIfInBounds_toArray, List.set_cons_zero, List.set_cons_succ]
          refine wpAnyH_ready (rs := [2]) (by kernel_rfl) (by simp) ?_
          refine AllReadyH.cons (o := { dst := some 62, op := Op.convert 31 9 (Operand.tmp 61), type := 9, pos := "law.go:65", after := #[{ on := 1, ground := Ground.data }], guard := none }) rfl (fun K hK => ?_) AllReadyH.nil
          clear hHeld
          go_simp
          refine hK.out _ _ ⟨k0, k1, k2⟩ (fun hHeld => ?_)
          clear hK K
          try simp only [Act.put, List.setIfInBounds_toArray, List.set_cons_zero, List.set_cons_succ]
          refine wpAnyH_take (i := 5) (oi := { dst := some 65, op := Op.binOp BinOp.neq 9 (Operand.tmp 62) (Operand.tmp 64) 9, type := 4, pos := "law.go:65", after := #[{ on := 2, ground := Ground.data }, { on := 4, ground := Ground.data }], guard := none }) (v := ?_) rfl (by kernel_rfl) (by kernel_rfl) (by kernel_rfl) (fun _ _ _ h => h) (Or.inl ⟨by rfl, ?_⟩) (by assumption) ?_
          rotate_left 1
          · intro w hSw
            (try dsimp only at hSw)
            go_simp
            all_goals try with_reducible rfl
          try simp only [Act.put, List.setIfInBounds_toArray, List.set_cons_zero, List.set_cons_succ]
          refine wpAnyH_take (i := 6) (oi := { dst := some 66, op := Op.move (Operand.tmp 65), type := 4, pos := "law.go:65", after := #[{ on := 5, ground := Ground.data }, { on := 1, ground := Ground.chain }], guard := none }) (v := ?_) rfl (by kernel_rfl) (by kernel_rfl) (by kernel_rfl) (fun _ _ _ h => h) (Or.inl ⟨by rfl, ?_⟩) (by assumption) ?_
          rotate_left 1
          · intro w hSw
            (try dsimp only at hSw)
            go_simp
            all_goals try with_reducible rfl
          try simp only [Act.put, List.setIfInBounds_toArray, List.set_cons_zero, List.set_cons_succ]
          refine wpAnyH_take (i := 7) (oi := { dst := some 67, op := Op.move (Operand.tmp 6), type := 27, pos := "law.go:65", after := #[{ on := 6, ground := Ground.guard }], guard := some (6, false) }) (v := ?_) rfl (by kernel_rfl) (by kernel_rfl) (by kernel_rfl) (fun _ _ _ h => h) (Or.inl ⟨by go_simp, ?_⟩) (by assumption) ?_
          rotate_left 1
          · intro w hSw
            (try dsimp only at hSw)
            go_simp
            all_goals try with_reducible rfl
          try simp only [Act.put, List.setIfInBounds_toArray, List.set_cons_zero, List.set_cons_succ]
          refine wpAnyH_take (i := 9) (oi := { dst := some 69, op := Op.fieldAddr 30 (Operand.tmp 7) 0, type := 0, pos := "law.go:65", after := #[{ on := 6, ground := Ground.guard }], guard := some (6, false) }) (v := ?_) rfl (by kernel_rfl) (by kernel_rfl) (by kernel_rfl) (fun _ _ _ h => h) (Or.inl ⟨by go_simp, ?_⟩) (by assumption) ?_
          rotate_left 1
          · intro w hSw
            (try dsimp only at hSw)
            go_simp
            all_goals try with_reducible rfl
          try simp only [Act.put, List.setIfInBounds_toArray, List.set_cons_zero, List.set_cons_succ]
          refine wpAnyH_take (i := 10) (oi := { dst := some 70, op := Op.load 9 (Operand.tmp 69), type := 9, pos := "law.go:65", after := #[{ on := 9, ground := Ground.data }, { on := 6, ground := Ground.guard }], guard := some (6, false) }) (v := ?_) rfl (by kernel_rfl) (by kernel_rfl) (by kernel_rfl) (fun _ _ _ h => h) (Or.inl ⟨by go_simp, ?_⟩) (by assumption) ?_
          rotate_left 1
          · intro w hSw
            (try dsimp only at hSw)
            go_simp
            all_goals try with_reducible rfl
          try simp only [Act.put, List.setIfInBounds_toArray, List.set_cons_zero, List.set_cons_succ]
          refine wpAnyH_take (i := 11) (oi := { dst := some 71, op := Op.call { callee := Callee.builtin Builtin.len, args := #[Operand.tmp 70], argTypes := #[9] }, type := 3, pos := "law.go:65", after := #[{ on := 10, ground := Ground.data }, { on := 6, ground := Ground.guard }], guard := some (6, false) }) (v := ?_) rfl (by kernel_rfl) (by kernel_rfl) (by kernel_rfl) (fun _ _ _ h => h) (Or.inl ⟨by go_simp, ?_⟩) (by assumption) ?_
          rotate_left 1
          · intro w hSw
            (try dsimp only at hSw)
            go_simp
            all_goals try with_reducible rfl
          try simp only [Act.put, List.setIfInBounds_toArray, List.set_cons_zero, List.set_cons_succ]
          refine wpAnyH_ready (rs := [8]) (by kernel_rfl) (by simp) ?_
          refine AllReadyH.cons (o := { dst := some 68, op := Op.call { callee := Callee.value (Operand.func 16), args := #[Operand.tmp 67], argTypes := #[27] }, type := 3, pos := "law.go:65", after := #[{ on := 7, ground := Ground.data }, { on := 6, ground := Ground.chain }, { on := 6, ground := Ground.guard }], guard := some (6, false) }) rfl (fun K hK => ?_) AllReadyH.nil
          clear hHeld
          go_simp
          refine (win_len (HXS.out.below PB)).mono ?_
          rintro e wj ⟨rfl, hb'⟩
          have PB' := below_step PB hb'
          clear PB k0 k1 k2
          have PB := PB'
          clear PB' hb'
          have k0 := (blk_cell (blk_below HQS.out PB) 0).trans (show _ = some (Value.string (strOfNums st5.held)) from rfl)
          have k1 := (blk_cell (blk_below HQS.out PB) 1).trans (show _ = some (Value.int .i64 (st5.room : Int)) from rfl)
          have k2 := (blk_cell (blk_below HQS.out PB) 2).trans (show _ = some (Value.int .i64 (st5.mv : Int)) from rfl)
          refine hK.out _ _ ⟨k0, k1, k2⟩ (fun hHeld => ?_)
          clear hK K
          try simp only [Act.put, List.setIfInBounds_toArray, List.set_cons_zero, List.set_cons_succ]
          refine wpAnyH_take (i := 12) (oi := { dst := some 72, op := Op.binOp BinOp.neq 3 (Operand.tmp 68) (Operand.tmp 71) 3, type := 4, pos := "law.go:65", after := #[{ on := 8, ground := Ground.data }, { on := 11, ground := Ground.data }, { on := 6, ground := Ground.guard }], guard := some (6, false) }) (v := ?_) rfl (by kernel_rfl) (by kernel_rfl) (by kernel_rfl) (fun _ _ _ h => h) (Or.inl ⟨by go_simp, ?_⟩) (by assumption) ?_
          rotate_left 1
          · intro w hSw
            (try dsimp only at hSw)
            go_simp
            all_goals try with_reducible rfl
          try simp only [Act.put, List.setIfInBounds_toArray, List.set_cons_zero, List.set_cons_succ]
          refine wpAnyH_take (i := 13) (oi := { dst := some 73, op := Op.pick (Operand.tmp 66) (Operand.const (Value.bool true)) (Operand.tmp 72), type := 4, pos := "law.go:65", after := #[{ on := 6, ground := Ground.data }, { on := 12, ground := Ground.data }], guard := none }) (v := ?_) rfl (by kernel_rfl) (by kernel_rfl) (by kernel_rfl) (fun _ _ _ h => h) (Or.inl ⟨by rfl, ?_⟩) (by assumption) ?_
          rotate_left 1
          · intro w hSw
            (try dsimp only at hSw)
            go_simp
            all_goals try with_reducible rfl
          try simp only [Act.put, List.setIfInBounds_toArray, List.set_cons_zero, List.set_cons_succ]
          refine wpAnyH_take (i := 14) (oi := { dst := some 74, op := Op.move (Operand.tmp 73), type := 4, pos := "law.go:65", after := #[{ on := 13, ground := Ground.data }, { on := 8, ground := Ground.chain }], guard := none }) (v := ?_) rfl (by kernel_rfl) (by kernel_rfl) (by kernel_rfl) (fun _ _ _ h => h) (Or.inl ⟨by rfl, ?_⟩) (by assumption) ?_
          rotate_left 1
          · intro w hSw
            (try dsimp only at hSw)
            go_simp
            all_goals try with_reducible rfl
          try simp only [Act.put, List.setIfInBounds_toArray, List.set_cons_zero, List.set_cons_succ]
          refine wpAnyH_take (i := 15) (oi := { dst := some 75, op := Op.move (Operand.tmp 6), type := 27, pos := "law.go:65", after := #[{ on := 14, ground := Ground.guard }], guard := some (14, false) }) (v := ?_) rfl (by kernel_rfl) (by kernel_rfl) (by kernel_rfl) (fun _ _ _ h => h) (Or.inl ⟨by go_simp, ?_⟩) (by assumption) ?_
          rotate_left 1
          · intro w hSw
            (try dsimp only at hSw)
            go_simp
            all_goals try with_reducible rfl
          try simp only [Act.put, List.setIfInBounds_toArray, List.set_cons_zero, List.set_cons_succ]
          refine wpAnyH_take (i := 17) (oi := { dst := some 77, op := Op.fieldAddr 30 (Operand.tmp 7) 1, type := 0, pos := "law.go:65", after := #[{ on := 14, ground := Ground.guard }], guard := some (14, false) }) (v := ?_) rfl (by kernel_rfl) (by kernel_rfl) (by kernel_rfl) (fun _ _ _ h => h) (Or.inl ⟨by go_simp, ?_⟩) (by assumption) ?_
          rotate_left 1
          · intro w hSw
            (try dsimp only at hSw)
            go_simp
            all_goals try with_reducible rfl
          try simp only [Act.put, List.setIfInBounds_toArray, List.set_cons_zero, List.set_cons_succ]
          refine wpAnyH_take (i := 18) (oi := { dst := some 78, op := Op.load 3 (Operand.tmp 77), type := 3, pos := "law.go:65", after := #[{ on := 17, ground := Ground.data }, { on := 14, ground := Ground.guard }], guard := some (14, false) }) (v := ?_) rfl (by kernel_rfl) (by kernel_rfl) (by kernel_rfl) (fun _ _ _ h => h) (Or.inl ⟨by go_simp, ?_⟩) (by assumption) ?_
          rotate_left 1
          · intro w hSw
            (try dsimp only at hSw)
            go_simp
            all_goals try with_reducible rfl
          try simp only [Act.put, List.setIfInBounds_toArray, List.set_cons_zero, List.set_cons_succ]
          refine wpAnyH_ready (rs := [16]) (by kernel_rfl) (by simp) ?_
          refine AllReadyH.cons (o := { dst := some 76, op := Op.call { callee := Callee.value (Operand.func 17), args := #[Operand.tmp 75], argTypes := #[27] }, type := 3, pos := "law.go:65", after := #[{ on := 15, ground := Ground.data }, { on := 14, ground := Ground.chain }, { on := 14, ground := Ground.guard }], guard := some (14, false) }) rfl (fun K hK => ?_) AllReadyH.nil
          clear hHeld
          go_simp
          refine (win_room (HXS.out.below PB)).mono ?_
          rintro e wj ⟨rfl, hb'⟩
          have PB' := below_step PB hb'
          clear PB k0 k1 k2
          have PB := PB'
          clear PB' hb'
          have k0 := (blk_cell (blk_below HQS.out PB) 0).trans (show _ = some (Value.string (strOfNums st5.held)) from rfl)
          have k1 := (blk_cell (blk_below HQS.out PB) 1).trans (show _ = some (Value.int .i64 (st5.room : Int)) from rfl)
          have k2 := (blk_cell (blk_below HQS.out PB) 2).trans (show _ = some (Value.int .i64 (st5.mv : Int)) from rfl)
          refine hK.out _ _ ⟨k0, k1, k2⟩ (fun hHeld => ?_)
          clear hK K
          try simp only [Act.put, List.setIfInBounds_toArray, List.set_cons_zero, List.set_cons_succ]
          refine wpAnyH_take (i := 19) (oi := { dst := some 79, op := Op.binOp BinOp.neq 3 (Operand.tmp 76) (Operand.tmp 78) 3, type := 4, pos := "law.go:65", after := #[{ on := 16, ground := Ground.data }, { on := 18, ground := Ground.data }, { on := 14, ground := Ground.guard }], guard := some (14, false) }) (v := ?_) rfl (by kernel_rfl) (by kernel_rfl) (by kernel_rfl) (fun _ _ _ h => h) (Or.inl ⟨by go_simp, ?_⟩) (by assumption) ?_
          rotate_left 1
          · intro w hSw
            (try dsimp only at hSw)
            go_simp
            all_goals try with_reducible rfl
          try simp only [Act.put, List.setIfInBounds_toArray, List.set_cons_zero, List.set_cons_succ]
          refine wpAnyH_take (i := 20) (oi := { dst := some 80, op := Op.pick (Operand.tmp 74) (Operand.const (Value.bool true)) (Operand.tmp 79), type := 4, pos := "law.go:65", after := #[{ on := 14, ground := Ground.data }, { on := 19, ground := Ground.data }], guard := none }) (v := ?_) rfl (by kernel_rfl) (by kernel_rfl) (by kernel_rfl) (fun _ _ _ h => h) (Or.inl ⟨by rfl, ?_⟩) (by assumption) ?_
          rotate_left 1
          · intro w hSw
            (try dsimp only at hSw)
            go_simp
            all_goals try with_reducible rfl
          try simp only [Act.put, List.setIfInBounds_toArray, List.set_cons_zero, List.set_cons_succ]
          refine wpAnyH_take (i := 21) (oi := { dst := some 81, op := Op.move (Operand.tmp 80), type := 4, pos := "law.go:65", after := #[{ on := 20, ground := Ground.data }, { on := 16, ground := Ground.chain }], guard := none }) (v := ?_) rfl (by kernel_rfl) (by kernel_rfl) (by kernel_rfl) (fun _ _ _ h => h) (Or.inl ⟨by rfl, ?_⟩) (by assumption) ?_
          rotate_left 1
          · intro w hSw
            (try dsimp only at hSw)
            go_simp
            all_goals try with_reducible rfl
          try simp only [Act.put, List.setIfInBounds_toArray, List.set_cons_zero, List.set_cons_succ]
          refine wpAnyH_take (i := 22) (oi := { dst := some 82, op := Op.move (Operand.tmp 5), type := 25, pos := "law.go:65", after := #[{ on := 21, ground := Ground.guard }], guard := some (21, false) }) (v := ?_) rfl (by kernel_rfl) (by kernel_rfl) (by kernel_rfl) (fun _ _ _ h => h) (Or.inl ⟨by go_simp, ?_⟩) (by assumption) ?_
          rotate_left 1
          · intro w hSw
            (try dsimp only at hSw)
            go_simp
            all_goals try with_reducible rfl
          try simp only [Act.put, List.setIfInBounds_toArray, List.set_cons_zero, List.set_cons_succ]
          refine wpAnyH_take (i := 24) (oi := { dst := some 84, op := Op.fieldAddr 30 (Operand.tmp 7) 2, type := 0, pos := "law.go:65", after := #[{ on := 21, ground := Ground.guard }], guard := some (21, false) }) (v := ?_) rfl (by kernel_rfl) (by kernel_rfl) (by kernel_rfl) (fun _ _ _ h => h) (Or.inl ⟨by go_simp, ?_⟩) (by assumption) ?_
          rotate_left 1
          · intro w hSw
            (try dsimp only at hSw)
            go_simp
            all_goals try with_reducible rfl
          try simp only [Act.put, List.setIfInBounds_toArray, List.set_cons_zero, List.set_cons_succ]
          refine wpAnyH_take (i := 25) (oi := { dst := some 85, op := Op.load 3 (Operand.tmp 84), type := 3, pos := "law.go:65", after := #[{ on := 24, ground := Ground.data }, { on := 21, ground := Ground.guard }], guard := some (21, false) }) (v := ?_) rfl (by kernel_rfl) (by kernel_rfl) (by kernel_rfl) (fun _ _ _ h => h) (Or.inl ⟨by go_simp, ?_⟩) (by assumption) ?_
          rotate_left 1
          · intro w hSw
            (try dsimp only at hSw)
            go_simp
            all_goals try with_reducible rfl
          try simp only [Act.put, List.setIfInBounds_toArray, List.set_cons_zero, List.set_cons_succ]
          refine wpAnyH_take (i := 26) (oi := { dst := some 86, op := Op.build 40 #[(3, Operand.tmp 85)], type := 40, pos := "law.go:65", after := #[{ on := 25, ground := Ground.data }, { on := 21, ground := Ground.guard }], guard := some (21, false) }) (v := ?_) rfl (by kernel_rfl) (by kernel_rfl) (by kernel_rfl) (fun _ _ _ h => h) (Or.inl ⟨by go_simp, ?_⟩) (by assumption) ?_
          rotate_left 1
          · intro w hSw
            (try dsimp only at hSw)
            go_simp
            all_goals try with_reducible rfl
          try simp only [Act.put, List.setIfInBounds_toArray, List.set_cons_zero, List.set_cons_succ]
          refine wpAnyH_ready (rs := [23]) (by kernel_rfl) (by simp) ?_
          refine AllReadyH.cons (o := { dst := some 83, op := Op.call { callee := Callee.value (Operand.func 18), args := #[Operand.tmp 82], argTypes := #[25] }, type := 40, pos := "law.go:65", after := #[{ on := 22, ground := Ground.data }, { on := 21, ground := Ground.chain }, { on := 21, ground := Ground.guard }], guard := some (21, false) }) rfl (fun K hK => ?_) AllReadyH.nil
          clear hHeld
          go_simp
          refine (win_counts (HXS.out.below PB)).mono ?_
          rintro e wj ⟨rfl, hb'⟩
          have PB' := below_step PB hb'
          clear PB k0 k1 k2
          have PB := PB'
          clear PB' hb'
          have k0 := (blk_cell (blk_below HQS.out PB) 0).trans (show _ = some (Value.string (strOfNums st5.held)) from rfl)
          have k1 := (blk_cell (blk_below HQS.out PB) 1).trans (show _ = some (Value.int .i64 (st5.room : Int)) from rfl)
          have k2 := (blk_cell (blk_below HQS.out PB) 2).trans (show _ = some (Value.int .i64 (st5.mv : Int)) from rfl)
          refine hK.out _ _ ⟨k0, k1, k2⟩ (fun hHeld => ?_)
          clear hK K
          try simp only [Act.put, List.setIfInBounds_toArray, List.set_cons_zero, List.set_cons_succ]
          refine wpAnyH_take (i := 27) (oi := { dst := some 87, op := Op.binOp BinOp.neq 40 (Operand.tmp 83) (Operand.tmp 86) 40, type := 4, pos := "law.go:65", after := #[{ on := 23, ground := Ground.data }, { on := 26, ground := Ground.data }, { on := 21, ground := Ground.guard }], guard := some (21, false) }) (v := ?_) rfl (by kernel_rfl) (by kernel_rfl) (by kernel_rfl) (fun _ _ _ h => h) (Or.inl ⟨by go_simp, ?_⟩) (by assumption) ?_
          rotate_left 1
          · intro w hSw
            (try dsimp only at hSw)
            go_simp
            all_goals try with_reducible rfl
          try simp only [Act.put, List.setIfInBounds_toArray, List.set_cons_zero, List.set_cons_succ]
          refine wpAnyH_take (i := 28) (oi := { dst := some 88, op := Op.pick (Operand.tmp 81) (Operand.const (Value.bool true)) (Operand.tmp 87), type := 4, pos := "law.go:65", after := #[{ on := 21, ground := Ground.data }, { on := 27, ground := Ground.data }], guard := none }) (v := ?_) rfl (by kernel_rfl) (by kernel_rfl) (by kernel_rfl) (fun _ _ _ h => h) (Or.inl ⟨by rfl, ?_⟩) (by assumption) ?_
          rotate_left 1
          · intro w hSw
            (try dsimp only at hSw)
            go_simp
            all_goals try with_reducible rfl
          try simp only [Act.put, List.setIfInBounds_toArray, List.set_cons_zero, List.set_cons_succ]
          refine wpAnyH_done (by kernel_rfl) ?_ _
          go_wp2
          go_roundw
          case rel => exact ⟨n + 1, Ax, st5, by first | exact congrArg (Value.int .i64) hW.out | rfl, ⟨HLT.out⟩, ⟨HXS.out.below PB⟩, HG5, HXA5, ⟨blk_below HQS.out PB⟩, ⟨below_step HBS.out PB⟩⟩
          case measure => have := HLT.out; (try rw [hW.out]); simp [intOf]; omega
      · have c0b0 : decide ((n : Int) < (l0.length : Int)) = false := decide_eq_false (by omega)
        have c0b1 : decide (n < l0.length) = false := decide_eq_false hlt
        go_wp2_with fail
        refine (Go.Proofs.Ytgaoopcfjbcahaa.Win.bytes_none _).mono ?_
        rintro e w5 ⟨rfl, hb⟩
        have HB5 := Aside0.mk (below_step HB.out hb)
        go_wp2_with fail
        refine (Go.Proofs.Ytgaoopcfjbcahaa.Win.len_none _).mono ?_
        rintro e w6 ⟨rfl, hb6⟩
        have HB6 := Aside0.mk (below_step HB5.out hb6)
        go_wp2_with fail
        refine (Go.Proofs.Ytgaoopcfjbcahaa.Win.room_none _).mono ?_
        rintro e w7 ⟨rfl, hb7⟩
        have HB7 := Aside0.mk (below_step HB6.out hb7)
        go_wp2
        go_ret
        exact ⟨rfl, HB7.out⟩
def seinelaw18_WindowPlays.f (l0 : List S33) : Option Bool := if l0.length < 8796093022208 then some true else none
theorem seinelaw18_WindowPlays.calls (A0 : Option Addr) (c0 : Nat) (l0 : List S33) (r : Bool) (w : World) (hr0 : Kd.C k33 w A0 l0.length l0) (hc0 : l0.length ≤ c0) (h : seinelaw18_WindowPlays.f l0 = some r) :
    Calls Try.prog 3 #[.slice A0 l0.length c0] w fun e w' => e = .returned (.bool r) ∧ Below w.heap.size w w' := by
  unfold seinelaw18_WindowPlays.f at h
  by_cases hq : l0.length < 8796093022208
  · rw [if_pos hq] at h
    obtain rfl := Option.some.inj h
    exact plays_calls A0 c0 l0 w hr0 hc0 hq
  · rw [if_neg hq] at h
    cases h

end Go.Proofs.Ytgaoopcfjbcahaa.PWindowPlays
