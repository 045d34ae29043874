/- The document's window: Add and Clear. -/
import Derived.Test.YtgiaabgmnjaefaaStrK
section
namespace Go.Proofs.Ytgiaabgmnjaefaa.Str
open Go Go.RowKit Go.Proofs Go.Proofs.Ytgiaabgmnjaefaa.Met Go.Proofs.Ytgiaabgmnjaefaa.Win Go.Proofs.YtgiaabgmnjaefaaW.PrintWords Go.Proofs.YtgiaabgmnjaefaaW.PrintMore
set_option linter.unusedVariables false
set_option linter.unusedSimpArgs false
attribute [local go_sem] max2_int min2_int max_two min_two max_three min_three
theorem zero30 (W : World) : (zeroValue 30).run Try.prog W = .ok (.agg #[.string ⟨#[]⟩, .int .i64 0, .int .i64 0]) W := by
  have h : (Try.prog.info? 30).map (·.zero) = some (some (.agg #[.string ⟨#[]⟩, .int .i64 0, .int .i64 0])) := by kernel_rfl
  obtain ⟨i, hi, he⟩ := Option.map_eq_some_iff.mp h
  simp [zeroValue, typeInfo, hi, he, Sem.run_bind]
theorem info30 : (Try.prog.info? 30).map (·.size) = some 3 := by kernel_rfl
set_option maxHeartbeats 8000000 in
set_option maxRecDepth 100000 in
theorem ref_none (s : ByteArray) (room mv : Nat) (w : World) :
    Calls Try.prog 32 #[.agg #[.string s, .int .i64 (room : Int), .int .i64 (mv : Int)], .string ⟨#[]⟩] w fun e w' => e = .returned (.agg #[.string s, .int .i64 (room : Int), .int .i64 (mv : Int)]) ∧ Below w.heap.size w w' := by
  have hu30 := Try.underlying30
  have hz := zero30
  have hq : ((⟨#[]⟩ : ByteArray).toList == ([] : List UInt8)) = true := by decide +kernel
  have e0 := blk_alloc (blk_new w (.cells #[.string s, .int .i64 (room : Int), .int .i64 (mv : Int)] 30)) (.cells #[.string ⟨#[]⟩, .int .i64 0, .int .i64 0] 30)
  have e1 := blk_new (w.alloc (.cells #[.string s, .int .i64 (room : Int), .int .i64 (mv : Int)] 30)) (.cells #[.string ⟨#[]⟩, .int .i64 0, .int .i64 0] 30)
  rw [World.size_alloc] at e1
  have k0 := (blk_cell e0 0).trans (show _ = some (Value.string s) from rfl)
  have k1 := (blk_cell e0 1).trans (show _ = some (Value.int .i64 (room : Int)) from rfl)
  have k2 := (blk_cell e0 2).trans (show _ = some (Value.int .i64 (mv : Int)) from rfl)
  have f0 := blk_frozen e0 0
  have f1 := blk_frozen e0 1
  have f2 := blk_frozen e0 2
  have j0 := (blk_cell e1 0).trans (show _ = some (Value.string ⟨#[]⟩) from rfl)
  have j1 := (blk_cell e1 1).trans (show _ = some (Value.int .i64 0) from rfl)
  have j2 := (blk_cell e1 2).trans (show _ = some (Value.int .i64 0) from rfl)
  have m0 := blk_frozen e1 0
  have m1 := blk_frozen e1 1
  have m2 := blk_frozen e1 2
  go_enter Try.func32, Try.ntmps32
  go_wp2
  refine bodyPost_ret (results_single rfl (Vals.cell (w.heap.size + 1) 30 #[.string s, .int .i64 (room : Int), .int .i64 (mv : Int)] (0, 0) _ rfl ?_ Try.underlying30 rfl info30 Vals.nil)) rfl ?_
  · have e := blk_new (w.alloc (.cells #[.string s, .int .i64 (room : Int), .int .i64 (mv : Int)] 30)) (.cells #[.string s, .int .i64 (room : Int), .int .i64 (mv : Int)] 30)
    rw [World.size_alloc] at e
    exact e
  · exact ⟨rfl, below_alloc (below_alloc (Below.refl _ _) _) _⟩
set_option maxHeartbeats 8000000 in
set_option maxRecDepth 100000 in
/-- the document's Add, where the bytes fit -/
theorem ref_fit (s b : ByteArray) (n k : Nat) (room mv : Nat) (w : World) (hs : s.size = n) (hb : b.size = k) (hk : 0 < k) (hf : n + k ≤ room) (hr : room ≤ 10000) (hm : mv ≤ 1000000000) :
    Calls Try.prog 32 #[.agg #[.string s, .int .i64 (room : Int), .int .i64 (mv : Int)], .string b] w fun e w' => e = .returned (.agg #[.string (s ++ b), .int .i64 (room : Int), .int .i64 ((mv : Int) + (k : Int))]) ∧ Below w.heap.size w w' := by
  have hu30 := Try.underlying30
  have hz := zero30
  have hq : (b.toList == ([] : List UInt8)) = false := by
    rw [beq_eq_false_iff_ne]
    intro e
    have : b.toList.length = 0 := by rw [e]; rfl
    have h2 : b.toList.length = b.size := by rw [ByteArray.toList_eq]; rfl
    omega
  have hw1 : wrap64 ((s.size : Int) + (b.size : Int)) = ((n + k : Nat) : Int) := by rw [hs, hb]; unfold wrap64; omega
  have hw2 : wrap64 ((mv : Int) + (b.size : Int)) = ((mv + k : Nat) : Int) := by rw [hb]; unfold wrap64; omega
  have c1 : decide (((n + k : Nat) : Int) > (room : Int)) = false := decide_eq_false (by omega)
  have c1b : ¬ room < n + k := by omega
  have c1c : decide ((room : Int) < (n : Int) + (k : Int)) = false := decide_eq_false (by omega)
  have hsz : s.size + b.size ≤ 9223372036854775807 := by omega
  have s0 := eq_true hsz
  have s1 : decide (s.size + b.size ≤ 9223372036854775807) = true := decide_eq_true hsz
  have e0 := blk_alloc (blk_new w (.cells #[.string s, .int .i64 (room : Int), .int .i64 (mv : Int)] 30)) (.cells #[.string ⟨#[]⟩, .int .i64 0, .int .i64 0] 30)
  have e1 := blk_new (w.alloc (.cells #[.string s, .int .i64 (room : Int), .int .i64 (mv : Int)] 30)) (.cells #[.string ⟨#[]⟩, .int .i64 0, .int .i64 0] 30)
  rw [World.size_alloc] at e1
  have k0 := (blk_cell e0 0).trans (show _ = some (Value.string s) from rfl)
  have k1 := (blk_cell e0 1).trans (show _ = some (Value.int .i64 (room : Int)) from rfl)
  have k2 := (blk_cell e0 2).trans (show _ = some (Value.int .i64 (mv : Int)) from rfl)
  have f0 := blk_frozen e0 0
  have f1 := blk_frozen e0 1
  have f2 := blk_frozen e0 2
  have j0 := (blk_cell e1 0).trans (show _ = some (Value.string ⟨#[]⟩) from rfl)
  have j1 := (blk_cell e1 1).trans (show _ = some (Value.int .i64 0) from rfl)
  have j2 := (blk_cell e1 2).trans (show _ = some (Value.int .i64 0) from rfl)
  have m0 := blk_frozen e1 0
  have m1 := blk_frozen e1 1
  have m2 := blk_frozen e1 2
  go_enter Try.func32, Try.ntmps32
  go_wp2
  refine bodyPost_ret (results_single rfl (Vals.cell (w.heap.size + 1) 30 #[.string (s ++ b), .int .i64 (room : Int), .int .i64 ((mv : Int) + (k : Int))] (0, 0) _ rfl ?_ Try.underlying30 rfl info30 Vals.nil)) rfl ?_
  · have e := blk_new (w.alloc (.cells #[.string (s ++ b), .int .i64 (room : Int), .int .i64 ((mv : Int) + (k : Int))] 30)) (.cells #[.string (s ++ b), .int .i64 (room : Int), .int .i64 ((mv : Int) + (k : Int))] 30)
    rw [World.size_alloc] at e
    exact e
  · exact ⟨rfl, below_alloc (below_alloc (Below.refl _ _) _) _⟩
set_option maxHeartbeats 8000000 in
set_option maxRecDepth 100000 in
/-- the document's Add, where they don't -/
theorem ref_grow (s b : ByteArray) (n k : Nat) (room mv : Nat) (w : World) (hs : s.size = n) (hb : b.size = k) (hk : 0 < k) (hf : ¬ n + k ≤ room) (hn : n ≤ 10000) (hk2 : k ≤ 10000) (hr : room ≤ 10000) (hm : mv ≤ 1000000000) :
    Calls Try.prog 32 #[.agg #[.string s, .int .i64 (room : Int), .int .i64 (mv : Int)], .string b] w fun e w' => e = .returned (.agg #[.string (s ++ b), .int .i64 ((roomN room (n + k) : Nat) : Int), .int .i64 ((mv : Int) + (n : Int) + (k : Int))]) ∧ Below w.heap.size w w' := by
  have hu30 := Try.underlying30
  have hz := zero30
  have hq : (b.toList == ([] : List UInt8)) = false := by
    rw [beq_eq_false_iff_ne]
    intro e
    have : b.toList.length = 0 := by rw [e]; rfl
    have h2 : b.toList.length = b.size := by rw [ByteArray.toList_eq]; rfl
    omega
  have hw1 : wrap64 ((s.size : Int) + (b.size : Int)) = ((n + k : Nat) : Int) := by rw [hs, hb]; unfold wrap64; omega
  have hw2 : wrap64 ((mv : Int) + (s.size : Int)) = (mv : Int) + (n : Int) := by rw [hs]; unfold wrap64; omega
  have hw3 : wrap64 ((mv : Int) + (n : Int) + (b.size : Int)) = (mv : Int) + (n : Int) + (k : Int) := by rw [hb]; unfold wrap64; omega
  have hw4 : wrap64 (2 * (room : Int)) = 2 * (room : Int) := by unfold wrap64; omega
  have c1 : decide (((n + k : Nat) : Int) > (room : Int)) = true := decide_eq_true (by omega)
  have c1b : room < n + k := by omega
  have c1c : decide ((room : Int) < (n : Int) + (k : Int)) = true := decide_eq_true (by omega)
  have hsz : s.size + b.size ≤ 9223372036854775807 := by omega
  have s0 := eq_true hsz
  have s1 : decide (s.size + b.size ≤ 9223372036854775807) = true := decide_eq_true hsz
  have e0 := blk_alloc (blk_new w (.cells #[.string s, .int .i64 (room : Int), .int .i64 (mv : Int)] 30)) (.cells #[.string ⟨#[]⟩, .int .i64 0, .int .i64 0] 30)
  have e1 := blk_new (w.alloc (.cells #[.string s, .int .i64 (room : Int), .int .i64 (mv : Int)] 30)) (.cells #[.string ⟨#[]⟩, .int .i64 0, .int .i64 0] 30)
  rw [World.size_alloc] at e1
  have k0 := (blk_cell e0 0).trans (show _ = some (Value.string s) from rfl)
  have k1 := (blk_cell e0 1).trans (show _ = some (Value.int .i64 (room : Int)) from rfl)
  have k2 := (blk_cell e0 2).trans (show _ = some (Value.int .i64 (mv : Int)) from rfl)
  have f0 := blk_frozen e0 0
  have f1 := blk_frozen e0 1
  have f2 := blk_frozen e0 2
  have j0 := (blk_cell e1 0).trans (show _ = some (Value.string ⟨#[]⟩) from rfl)
  have j1 := (blk_cell e1 1).trans (show _ = some (Value.int .i64 0) from rfl)
  have j2 := (blk_cell e1 2).trans (show _ = some (Value.int .i64 0) from rfl)
  have m0 := blk_frozen e1 0
  have m1 := blk_frozen e1 1
  have m2 := blk_frozen e1 2
  by_cases d1 : 2 * room < n + k
  · have d1a : decide (2 * (room : Int) < (n : Int) + (k : Int)) = true := decide_eq_true (by omega)
    have d1b : 2 * (room : Int) < (n : Int) + (k : Int) := by omega
    by_cases d2 : n + k < 16
    · have d2a : decide ((n : Int) + (k : Int) < 16) = true := decide_eq_true (by omega)
      have d2b : (n : Int) + (k : Int) < 16 := by omega
      have hR : ((roomN room (n + k) : Nat) : Int) = 16 := by unfold roomN; omega
      rw [hR]
      clear hR
      go_enter Try.func32, Try.ntmps32
      go_wp2
      refine bodyPost_ret (results_single rfl (Vals.cell (w.heap.size + 1) 30 #[.string (s ++ b), .int .i64 16, .int .i64 ((mv : Int) + (n : Int) + (k : Int))] (0, 0) _ rfl ?_ Try.underlying30 rfl info30 Vals.nil)) rfl ?_
      · have e := blk_new (w.alloc (.cells #[.string (s ++ b), .int .i64 16, .int .i64 ((mv : Int) + (n : Int) + (k : Int))] 30)) (.cells #[.string (s ++ b), .int .i64 16, .int .i64 ((mv : Int) + (n : Int) + (k : Int))] 30)
        rw [World.size_alloc] at e
        exact e
      · exact ⟨rfl, below_alloc (below_alloc (Below.refl _ _) _) _⟩
    · have d2a : decide ((n : Int) + (k : Int) < 16) = false := decide_eq_false (by omega)
      have d2b : ¬ (n : Int) + (k : Int) < 16 := by omega
      have hR : ((roomN room (n + k) : Nat) : Int) = (n : Int) + (k : Int) := by unfold roomN; omega
      rw [hR]
      clear hR
      go_enter Try.func32, Try.ntmps32
      go_wp2
      refine bodyPost_ret (results_single rfl (Vals.cell (w.heap.size + 1) 30 #[.string (s ++ b), .int .i64 ((n : Int) + (k : Int)), .int .i64 ((mv : Int) + (n : Int) + (k : Int))] (0, 0) _ rfl ?_ Try.underlying30 rfl info30 Vals.nil)) rfl ?_
      · have e := blk_new (w.alloc (.cells #[.string (s ++ b), .int .i64 ((n : Int) + (k : Int)), .int .i64 ((mv : Int) + (n : Int) + (k : Int))] 30)) (.cells #[.string (s ++ b), .int .i64 ((n : Int) + (k : Int)), .int .i64 ((mv : Int) + (n : Int) + (k : Int))] 30)
        rw [World.size_alloc] at e
        exact e
      · exact ⟨rfl, below_alloc (below_alloc (Below.refl _ _) _) _⟩
  · have d1a : decide (2 * (room : Int) < (n : Int) + (k : Int)) = false := decide_eq_false (by omega)
    have d1b : ¬ 2 * (room : Int) < (n : Int) + (k : Int) := by omega
    by_cases d2 : 2 * room < 16
    · have d2a : decide (2 * (room : Int) < 16) = true := decide_eq_true (by omega)
      have d2b : 2 * (room : Int) < 16 := by omega
      have hR : ((roomN room (n + k) : Nat) : Int) = 16 := by unfold roomN; omega
      rw [hR]
      clear hR
      go_enter Try.func32, Try.ntmps32
      go_wp2
      refine bodyPost_ret (results_single rfl (Vals.cell (w.heap.size + 1) 30 #[.string (s ++ b), .int .i64 16, .int .i64 ((mv : Int) + (n : Int) + (k : Int))] (0, 0) _ rfl ?_ Try.underlying30 rfl info30 Vals.nil)) rfl ?_
      · have e := blk_new (w.alloc (.cells #[.string (s ++ b), .int .i64 16, .int .i64 ((mv : Int) + (n : Int) + (k : Int))] 30)) (.cells #[.string (s ++ b), .int .i64 16, .int .i64 ((mv : Int) + (n : Int) + (k : Int))] 30)
        rw [World.size_alloc] at e
        exact e
      · exact ⟨rfl, below_alloc (below_alloc (Below.refl _ _) _) _⟩
    · have d2a : decide (2 * (room : Int) < 16) = false := decide_eq_false (by omega)
      have d2b : ¬ 2 * (room : Int) < 16 := by omega
      have hR : ((roomN room (n + k) : Nat) : Int) = 2 * (room : Int) := by unfold roomN; omega
      rw [hR]
      clear hR
      go_enter Try.func32, Try.ntmps32
      go_wp2
      refine bodyPost_ret (results_single rfl (Vals.cell (w.heap.size + 1) 30 #[.string (s ++ b), .int .i64 (2 * (room : Int)), .int .i64 ((mv : Int) + (n : Int) + (k : Int))] (0, 0) _ rfl ?_ Try.underlying30 rfl info30 Vals.nil)) rfl ?_
      · have e := blk_new (w.alloc (.cells #[.string (s ++ b), .int .i64 (2 * (room : Int)), .int .i64 ((mv : Int) + (n : Int) + (k : Int))] 30)) (.cells #[.string (s ++ b), .int .i64 (2 * (room : Int)), .int .i64 ((mv : Int) + (n : Int) + (k : Int))] 30)
        rw [World.size_alloc] at e
        exact e
      · exact ⟨rfl, below_alloc (below_alloc (Below.refl _ _) _) _⟩

theorem str_app (a b : List Int) : strOfNums (a ++ b) = strOfNums a ++ strOfNums b := by
  apply ByteArray.ext
  simp [strOfNums, ByteArray.data_append]
theorem ref_add (st : St) (l : List Int) (h5 : st.room ≤ 10000) (h6 : st.held.length ≤ st.room) (hmv : st.mv ≤ 1000000000) (hl : l.length ≤ 4000) (w : World) :
    Calls Try.prog 32 #[.agg #[.string (strOfNums st.held), .int .i64 (st.room : Int), .int .i64 (st.mv : Int)], .string (strOfNums l)] w fun e w' => e = .returned (.agg #[.string (strOfNums (addS st l).held), .int .i64 ((addS st l).room : Int), .int .i64 ((addS st l).mv : Int)]) ∧ Below w.heap.size w w' := by
  by_cases h0 : l.length = 0
  · have e : addS st l = st := by unfold addS; rw [if_pos h0]
    have e2 : strOfNums l = ⟨#[]⟩ := by rw [List.length_eq_zero_iff.mp h0]; decide +kernel
    rw [e, e2]
    exact ref_none _ _ _ w
  · rw [add_held, str_app]
    by_cases hf : st.held.length + l.length ≤ st.room
    · obtain ⟨q1, q2⟩ := add_fit st l hf
      rw [q1, q2]
      exact ref_fit _ _ st.held.length l.length st.room st.mv w (strOfNums_size _) (strOfNums_size _) (by omega) hf h5 (by omega)
    · obtain ⟨q1, q2⟩ := add_grow st l hf h6
      rw [q1, q2]
      have := ref_grow _ _ st.held.length l.length st.room st.mv w (strOfNums_size st.held) (strOfNums_size l) (by omega) hf (by omega) (by omega) h5 (by omega)
      rw [show ((st.mv + (st.held.length + l.length) : Nat) : Int) = (st.mv : Int) + (st.held.length : Int) + (l.length : Int) by omega]
      exact this
set_option maxHeartbeats 8000000 in
set_option maxRecDepth 100000 in
theorem ref_clear (s : ByteArray) (room mv : Int) (w : World) :
    Calls Try.prog 40 #[.agg #[.string s, .int .i64 room, .int .i64 mv]] w fun e w' => e = .returned (.agg #[.string ⟨#[]⟩, .int .i64 room, .int .i64 mv]) ∧ Below w.heap.size w w' := by
  have hu30 := Try.underlying30
  have hz := zero30
  go_enter Try.func40, Try.ntmps40
  go_wp2
  refine bodyPost_ret (results_single rfl (Vals.cell (w.heap.size + 1) 30 #[.string ⟨#[]⟩, .int .i64 room, .int .i64 mv] (0, 0) _ rfl ?_ Try.underlying30 rfl info30 Vals.nil)) rfl ?_
  · have e := blk_new (w.alloc (.cells #[.string s, .int .i64 room, .int .i64 mv] 30)) (.cells #[.string ⟨#[]⟩, .int .i64 room, .int .i64 mv] 30)
    rw [World.size_alloc] at e
    exact e
  · exact ⟨rfl, below_alloc (below_alloc (Below.refl _ _) _) _⟩
end Go.Proofs.Ytgiaabgmnjaefaa.Str
end
/- The document's line. -/
section
namespace Go.Proofs.Ytgiaabgmnjaefaa.Str
open Go Go.RowKit Go.Proofs Go.Proofs.Ytgiaabgmnjaefaa.Met Go.Proofs.Ytgiaabgmnjaefaa.Win Go.Proofs.YtgiaabgmnjaefaaW.PrintWords Go.Proofs.YtgiaabgmnjaefaaW.PrintMore
set_option linter.unusedVariables false
set_option linter.unusedSimpArgs false
attribute [local go_sem] max2_int min2_int max_two min_two max_three min_three
/-- a stream, as the document's -/
def refA (s : SS) : Array Value := #[.string (strOfNums s.st.held), .int .i64 (s.st.room : Int), .int .i64 (s.st.mv : Int), .int .i64 s.most, .int .i64 (s.num : Int), .int .i64 (s.off : Int), .int .i64 (s.hunt : Int), .bool s.over, .int .i64 s.bad]
def lnA (x : Ln) : Array Value := #[.int .i64 x.1, .int .i64 x.2.1, .string (strOfNums x.2.2)]
theorem zero33 (W : World) : (zeroValue 33).run Try.prog W = .ok (.agg #[.string ⟨#[]⟩, .int .i64 0, .int .i64 0, .int .i64 0, .int .i64 0, .int .i64 0, .int .i64 0, .bool false, .int .i64 0]) W := by
  have h : (Try.prog.info? 33).map (·.zero) = some (some (.agg #[.string ⟨#[]⟩, .int .i64 0, .int .i64 0, .int .i64 0, .int .i64 0, .int .i64 0, .int .i64 0, .bool false, .int .i64 0])) := by kernel_rfl
  obtain ⟨i, hi, he⟩ := Option.map_eq_some_iff.mp h
  simp [zeroValue, typeInfo, hi, he, Sem.run_bind]
theorem info33 : (Try.prog.info? 33).map (·.size) = some 9 := by kernel_rfl
theorem zero49 (W : World) : (zeroValue 49).run Try.prog W = .ok (.agg #[.int .i64 0, .int .i64 0, .string ⟨#[]⟩]) W := by
  have h : (Try.prog.info? 49).map (·.zero) = some (some (.agg #[.int .i64 0, .int .i64 0, .string ⟨#[]⟩])) := by kernel_rfl
  obtain ⟨i, hi, he⟩ := Option.map_eq_some_iff.mp h
  simp [zeroValue, typeInfo, hi, he, Sem.run_bind]
theorem info49 : (Try.prog.info? 49).map (·.size) = some 3 := by kernel_rfl
theorem str_empty {l : List Int} : ((strOfNums l).toList == ([] : List UInt8)) = decide (l.length = 0) := by
  rw [Go.Lib.strOfNums_toList]
  cases l <;> rfl
set_option maxHeartbeats 8000000 in
set_option maxRecDepth 100000 in
theorem ref_new (most : Int) (w : World) :
    Calls Try.prog 14 #[.int .i64 most] w fun e w' => e = .returned (.agg (refA (newSS most 0))) ∧ Below w.heap.size w w' := by
  have hu33 := Try.underlying33
  have hz := zero33
  have he : strOfNums [] = ⟨#[]⟩ := by decide +kernel
  by_cases h : most < 0
  · have d1 : decide (most < 0) = true := decide_eq_true h
    have hr : refA (newSS most 0) = #[.string ⟨#[]⟩, .int .i64 0, .int .i64 0, .int .i64 0, .int .i64 0, .int .i64 0, .int .i64 0, .bool false, .int .i64 0] := by
      unfold refA newSS newS
      simp only [if_pos h, he]
      rfl
    rw [hr]
    clear h hr
    go_enter Try.func14, Try.ntmps14
    go_wp2
    refine bodyPost_ret (results_single rfl (Vals.cell w.heap.size 33 #[.string ⟨#[]⟩, .int .i64 0, .int .i64 0, .int .i64 0, .int .i64 0, .int .i64 0, .int .i64 0, .bool false, .int .i64 0] (0, 0) _ rfl ?_ Try.underlying33 rfl info33 Vals.nil)) rfl ?_
    · exact blk_new w _
    · exact ⟨rfl, below_alloc (Below.refl _ _) _⟩
  · have d1 : decide (most < 0) = false := decide_eq_false h
    have hr : refA (newSS most 0) = #[.string ⟨#[]⟩, .int .i64 0, .int .i64 0, .int .i64 most, .int .i64 0, .int .i64 0, .int .i64 0, .bool false, .int .i64 0] := by
      unfold refA newSS newS
      simp only [if_neg h, he]
      rfl
    rw [hr]
    clear h hr
    go_enter Try.func14, Try.ntmps14
    go_wp2
    refine bodyPost_ret (results_single rfl (Vals.cell w.heap.size 33 #[.string ⟨#[]⟩, .int .i64 0, .int .i64 0, .int .i64 most, .int .i64 0, .int .i64 0, .int .i64 0, .bool false, .int .i64 0] (0, 0) _ rfl ?_ Try.underlying33 rfl info33 Vals.nil)) rfl ?_
    · exact blk_new w _
    · exact ⟨rfl, below_alloc (Below.refl _ _) _⟩
end Go.Proofs.Ytgiaabgmnjaefaa.Str
end
/- The document's line. -/
section
namespace Go.Proofs.Ytgiaabgmnjaefaa.Str
open Go Go.RowKit Go.Proofs Go.Proofs.Ytgiaabgmnjaefaa.Met Go.Proofs.Ytgiaabgmnjaefaa.Win Go.Proofs.YtgiaabgmnjaefaaW.PrintWords Go.Proofs.YtgiaabgmnjaefaaW.PrintMore
set_option linter.unusedVariables false
set_option linter.unusedSimpArgs false
attribute [local go_sem] max2_int min2_int max_two min_two max_three min_three
theorem ref_w {n o L : Nat} (h1 : n ≤ 1000000) (h2 : o ≤ 10000000000) (h3 : L ≤ 4000) : wrap64 ((n : Int) + 1) = ((n + 1 : Nat) : Int) ∧ wrap64 ((L : Int) + 1) = ((L + 1 : Nat) : Int) ∧ wrap64 ((o : Int) + ((L + 1 : Nat) : Int)) = ((o + (L + 1) : Nat) : Int) ∧ wrap64 ((o : Int) + ((L : Int) + 1)) = ((o + (L + 1) : Nat) : Int) := by
  refine ⟨?_, ?_, ?_, ?_⟩ <;> (unfold wrap64; omega)
theorem far9 {w : World} {g : Nat} {t : TypeId} {cs : Array Value} (h : w.heap[g]? = some (.cells cs t (0, 0))) {b : Nat} (hne : g ≠ b) (v0 v1 v2 v3 v4 v5 v6 v7 v8 : Value) : (((((((((w.setCell ⟨b, 0, none⟩ v0).setCell ⟨b, 1, none⟩ v1).setCell ⟨b, 2, none⟩ v2).setCell ⟨b, 3, none⟩ v3).setCell ⟨b, 4, none⟩ v4).setCell ⟨b, 5, none⟩ v5).setCell ⟨b, 6, none⟩ v6).setCell ⟨b, 7, none⟩ v7).setCell ⟨b, 8, none⟩ v8).heap[g]? = some (.cells cs t (0, 0)) := by
  have h0 := blk_far h (p := ⟨b, 0, none⟩) hne v0
  have h1 := blk_far h0 (p := ⟨b, 1, none⟩) hne v1
  have h2 := blk_far h1 (p := ⟨b, 2, none⟩) hne v2
  have h3 := blk_far h2 (p := ⟨b, 3, none⟩) hne v3
  have h4 := blk_far h3 (p := ⟨b, 4, none⟩) hne v4
  have h5 := blk_far h4 (p := ⟨b, 5, none⟩) hne v5
  have h6 := blk_far h5 (p := ⟨b, 6, none⟩) hne v6
  have h7 := blk_far h6 (p := ⟨b, 7, none⟩) hne v7
  have h8 := blk_far h7 (p := ⟨b, 8, none⟩) hne v8
  exact h8
theorem put9 {w : World} {b : Nat} {t : TypeId} {x0 x1 x2 x3 x4 x5 x6 x7 x8 : Value} (h : w.heap[b]? = some (.cells #[x0, x1, x2, x3, x4, x5, x6, x7, x8] t (0, 0))) (v0 v1 v2 v3 v4 v5 v6 v7 v8 : Value) : (((((((((w.setCell ⟨b, 0, none⟩ v0).setCell ⟨b, 1, none⟩ v1).setCell ⟨b, 2, none⟩ v2).setCell ⟨b, 3, none⟩ v3).setCell ⟨b, 4, none⟩ v4).setCell ⟨b, 5, none⟩ v5).setCell ⟨b, 6, none⟩ v6).setCell ⟨b, 7, none⟩ v7).setCell ⟨b, 8, none⟩ v8).heap[b]? = some (.cells #[v0, v1, v2, v3, v4, v5, v6, v7, v8] t (0, 0)) := by
  have h0 := blk_put (cs' := #[v0, x1, x2, x3, x4, x5, x6, x7, x8]) h 0 v0 rfl
  have h1 := blk_put (cs' := #[v0, v1, x2, x3, x4, x5, x6, x7, x8]) h0 1 v1 rfl
  have h2 := blk_put (cs' := #[v0, v1, v2, x3, x4, x5, x6, x7, x8]) h1 2 v2 rfl
  have h3 := blk_put (cs' := #[v0, v1, v2, v3, x4, x5, x6, x7, x8]) h2 3 v3 rfl
  have h4 := blk_put (cs' := #[v0, v1, v2, v3, v4, x5, x6, x7, x8]) h3 4 v4 rfl
  have h5 := blk_put (cs' := #[v0, v1, v2, v3, v4, v5, x6, x7, x8]) h4 5 v5 rfl
  have h6 := blk_put (cs' := #[v0, v1, v2, v3, v4, v5, v6, x7, x8]) h5 6 v6 rfl
  have h7 := blk_put (cs' := #[v0, v1, v2, v3, v4, v5, v6, v7, x8]) h6 7 v7 rfl
  have h8 := blk_put (cs' := #[v0, v1, v2, v3, v4, v5, v6, v7, v8]) h7 8 v8 rfl
  exact h8
theorem bel9 {B : Nat} {w0 w : World} (h : Below B w0 w) {b : Nat} (hb : B ≤ b) (v0 v1 v2 v3 v4 v5 v6 v7 v8 : Value) : Below B w0 (((((((((w.setCell ⟨b, 0, none⟩ v0).setCell ⟨b, 1, none⟩ v1).setCell ⟨b, 2, none⟩ v2).setCell ⟨b, 3, none⟩ v3).setCell ⟨b, 4, none⟩ v4).setCell ⟨b, 5, none⟩ v5).setCell ⟨b, 6, none⟩ v6).setCell ⟨b, 7, none⟩ v7).setCell ⟨b, 8, none⟩ v8) := by
  have h0 := Below.setCell (p := ⟨b, 0, none⟩) h hb v0
  have h1 := Below.setCell (p := ⟨b, 1, none⟩) h0 hb v1
  have h2 := Below.setCell (p := ⟨b, 2, none⟩) h1 hb v2
  have h3 := Below.setCell (p := ⟨b, 3, none⟩) h2 hb v3
  have h4 := Below.setCell (p := ⟨b, 4, none⟩) h3 hb v4
  have h5 := Below.setCell (p := ⟨b, 5, none⟩) h4 hb v5
  have h6 := Below.setCell (p := ⟨b, 6, none⟩) h5 hb v6
  have h7 := Below.setCell (p := ⟨b, 7, none⟩) h6 hb v7
  have h8 := Below.setCell (p := ⟨b, 8, none⟩) h7 hb v8
  exact h8
theorem far3 {w : World} {g : Nat} {t : TypeId} {cs : Array Value} (h : w.heap[g]? = some (.cells cs t (0, 0))) {b : Nat} (hne : g ≠ b) (v0 v1 v2 : Value) : (((w.setCell ⟨b, 0, none⟩ v0).setCell ⟨b, 1, none⟩ v1).setCell ⟨b, 2, none⟩ v2).heap[g]? = some (.cells cs t (0, 0)) := by
  have h0 := blk_far h (p := ⟨b, 0, none⟩) hne v0
  have h1 := blk_far h0 (p := ⟨b, 1, none⟩) hne v1
  have h2 := blk_far h1 (p := ⟨b, 2, none⟩) hne v2
  exact h2
theorem put3 {w : World} {b : Nat} {t : TypeId} {x0 x1 x2 : Value} (h : w.heap[b]? = some (.cells #[x0, x1, x2] t (0, 0))) (v0 v1 v2 : Value) : (((w.setCell ⟨b, 0, none⟩ v0).setCell ⟨b, 1, none⟩ v1).setCell ⟨b, 2, none⟩ v2).heap[b]? = some (.cells #[v0, v1, v2] t (0, 0)) := by
  have h0 := blk_put (cs' := #[v0, x1, x2]) h 0 v0 rfl
  have h1 := blk_put (cs' := #[v0, v1, x2]) h0 1 v1 rfl
  have h2 := blk_put (cs' := #[v0, v1, v2]) h1 2 v2 rfl
  exact h2
theorem bel3 {B : Nat} {w0 w : World} (h : Below B w0 w) {b : Nat} (hb : B ≤ b) (v0 v1 v2 : Value) : Below B w0 (((w.setCell ⟨b, 0, none⟩ v0).setCell ⟨b, 1, none⟩ v1).setCell ⟨b, 2, none⟩ v2) := by
  have h0 := Below.setCell (p := ⟨b, 0, none⟩) h hb v0
  have h1 := Below.setCell (p := ⟨b, 1, none⟩) h0 hb v1
  have h2 := Below.setCell (p := ⟨b, 2, none⟩) h1 hb v2
  exact h2
theorem ref_w2 {n k o : Nat} (h2 : o ≤ 10000000000) (h3 : n + k ≤ 4000) : wrap64 ((n : Int) + (k : Int) + 1) = (n : Int) + (k : Int) + 1 ∧ wrap64 ((o : Int) + ((n : Int) + (k : Int) + 1)) = ((o + (n + k + 1) : Nat) : Int) := by
  refine ⟨?_, ?_⟩ <;> (unfold wrap64; omega)
abbrev sA (H : ByteArray) (room mv most num off hunt : Int) (ov : Bool) (bad : Int) : Array Value := #[.string H, .int .i64 room, .int .i64 mv, .int .i64 most, .int .i64 num, .int .i64 off, .int .i64 hunt, .bool ov, .int .i64 bad]
set_option maxHeartbeats 8000000 in
set_option maxRecDepth 100000 in
theorem ref_line_e (H R : ByteArray) (k num off : Nat) (room mv most hunt bad : Int) (ov : Bool) (hH : H.size = 0) (hR : R.size = k) (h1 : num ≤ 1000000) (h2 : off ≤ 10000000000) (h3 : k ≤ 4000) (w : World) :
    Calls Try.prog 31 #[.agg (sA H room mv most (num : Int) (off : Int) hunt ov bad), .string R] w fun e w' => e = .returned (.tuple #[.agg (sA H room mv most ((num + 1 : Nat) : Int) ((off + (k + 1) : Nat) : Int) hunt ov bad), .agg #[.int .i64 (num : Int), .int .i64 (off : Int), .string (H ++ R)]]) ∧ Below w.heap.size w w' := by
  have hu33 := Try.underlying33
  have hu30 := Try.underlying30
  have hu49 := Try.underlying49
  have hz := zero33
  have hz9 := zero49
  have hq : (H.toList == ([] : List UInt8)) = true := by
    rw [beq_iff_eq]
    have h2 : H.toList.length = H.size := by rw [ByteArray.toList_eq]; rfl
    exact List.eq_nil_of_length_eq_zero (by omega)
  have hq2 : (H.toList != ([] : List UInt8)) = false := by rw [bne, hq]; rfl
  have hsz : H.size + R.size ≤ 9223372036854775807 := by omega
  have s0 := eq_true hsz
  have s2 : (9223372036854775807 < H.size + R.size) = False := eq_false (by omega)
  have s1 : decide (H.size + R.size ≤ 9223372036854775807) = true := decide_eq_true hsz
  have hT : (H ++ R).size = k := by rw [ByteArray.size_append, hH, hR, Nat.zero_add]
  obtain ⟨hw1, hw2, hw3, hw4⟩ := ref_w h1 h2 h3
  have F0 := blk_below (blk_new w (.cells (sA H room mv most (num : Int) (off : Int) hunt ov bad) 33)) (below_alloc (below_alloc (Below.refl _ _) (.cells #[.string ⟨#[]⟩, .int .i64 0, .int .i64 0, .int .i64 0, .int .i64 0, .int .i64 0, .int .i64 0, .bool false, .int .i64 0] 33)) (.cells #[.int .i64 0, .int .i64 0, .string ⟨#[]⟩] 49))
  clear h1 h2 h3 hsz hH hR
  go_enter Try.func31, Try.ntmps31
  go_wp2
  have hwr4 : (off : Int) + ((k : Int) + 1) = ((off + (k + 1) : Nat) : Int) := by omega
  have hwr5 : (num : Int) + 1 = ((num + 1 : Nat) : Int) := rfl
  rw [hwr4, hwr5]
  have G0 := Aside0.mk (blk_alloc (blk_alloc (blk_alloc (blk_new w (.cells (sA H room mv most ((num + 1 : Nat) : Int) ((off + (k + 1) : Nat) : Int) hunt ov bad) 33)) (.cells #[.string ⟨#[]⟩, .int .i64 0, .int .i64 0, .int .i64 0, .int .i64 0, .int .i64 0, .int .i64 0, .bool false, .int .i64 0] 33)) (.cells #[.int .i64 0, .int .i64 0, .string ⟨#[]⟩] 49)) (.cells #[.int .i64 (num : Int), .int .i64 (off : Int), .string (H ++ R)] 49))
  have G1 := Aside0.mk (blk_alloc (blk_alloc (blk_new (w.alloc (.cells (sA H room mv most ((num + 1 : Nat) : Int) ((off + (k + 1) : Nat) : Int) hunt ov bad) 33)) (.cells #[.string ⟨#[]⟩, .int .i64 0, .int .i64 0, .int .i64 0, .int .i64 0, .int .i64 0, .int .i64 0, .bool false, .int .i64 0] 33)) (.cells #[.int .i64 0, .int .i64 0, .string ⟨#[]⟩] 49)) (.cells #[.int .i64 (num : Int), .int .i64 (off : Int), .string (H ++ R)] 49))
  have G2 := Aside0.mk (blk_alloc (blk_new ((w.alloc (.cells (sA H room mv most ((num + 1 : Nat) : Int) ((off + (k + 1) : Nat) : Int) hunt ov bad) 33)).alloc (.cells #[.string ⟨#[]⟩, .int .i64 0, .int .i64 0, .int .i64 0, .int .i64 0, .int .i64 0, .int .i64 0, .bool false, .int .i64 0] 33)) (.cells #[.int .i64 0, .int .i64 0, .string ⟨#[]⟩] 49)) (.cells #[.int .i64 (num : Int), .int .i64 (off : Int), .string (H ++ R)] 49))
  have G3 := Aside0.mk (blk_new (((w.alloc (.cells (sA H room mv most ((num + 1 : Nat) : Int) ((off + (k + 1) : Nat) : Int) hunt ov bad) 33)).alloc (.cells #[.string ⟨#[]⟩, .int .i64 0, .int .i64 0, .int .i64 0, .int .i64 0, .int .i64 0, .int .i64 0, .bool false, .int .i64 0] 33)).alloc (.cells #[.int .i64 0, .int .i64 0, .string ⟨#[]⟩] 49)) (.cells #[.int .i64 (num : Int), .int .i64 (off : Int), .string (H ++ R)] 49))
  have GB := Aside0.mk (below_alloc (below_alloc (below_alloc (below_alloc (Below.refl w.heap.size w) (.cells (sA H room mv most ((num + 1 : Nat) : Int) ((off + (k + 1) : Nat) : Int) hunt ov bad) 33)) (.cells #[.string ⟨#[]⟩, .int .i64 0, .int .i64 0, .int .i64 0, .int .i64 0, .int .i64 0, .int .i64 0, .bool false, .int .i64 0] 33)) (.cells #[.int .i64 0, .int .i64 0, .string ⟨#[]⟩] 49)) (.cells #[.int .i64 (num : Int), .int .i64 (off : Int), .string (H ++ R)] 49))
  have HG3 := Aside0.mk (show True ∧ w.heap.size + 1 + 1 + 1 ≠ w.heap.size + 1 ∧ w.heap.size + 1 + 1 + 1 ≠ w.heap.size + 1 + 1 from ⟨trivial, by omega, by omega⟩)
  rw [World.size_alloc] at G1
  rw [World.size_alloc, World.size_alloc] at G2
  rw [World.size_alloc, World.size_alloc, World.size_alloc] at G3
  clear hwr4 hwr5 hw1 hw2 hw3 hw4 s0 s1 s2 hT hq hq2 F0
  generalize (((w.alloc (.cells (sA H room mv most ((num + 1 : Nat) : Int) ((off + (k + 1) : Nat) : Int) hunt ov bad) 33)).alloc (.cells #[.string ⟨#[]⟩, .int .i64 0, .int .i64 0, .int .i64 0, .int .i64 0, .int .i64 0, .int .i64 0, .bool false, .int .i64 0] 33)).alloc (.cells #[.int .i64 0, .int .i64 0, .string ⟨#[]⟩] 49)).alloc (.cells #[.int .i64 (num : Int), .int .i64 (off : Int), .string (H ++ R)] 49) = X at G0 G1 G2 G3 GB ⊢
  generalize w.heap.size + 1 + 1 + 1 = g3 at G3 HG3 ⊢
  refine wp_region_held_drew (S := fun w' => w'.heap[w.heap.size]? = some (.cells #[.string H, .int .i64 room, .int .i64 mv, .int .i64 most, .int .i64 ((num + 1 : Nat) : Int), .int .i64 ((off + (k + 1) : Nat) : Int), .int .i64 hunt, .bool ov, .int .i64 bad] 33 (0, 0)) ∧ w'.heap[g3]? = some (.cells #[.int .i64 (num : Int), .int .i64 (off : Int), .string (H ++ R)] 49 (0, 0))) (by kernel_rfl) ⟨G0.out, G3.out⟩ (fun hHeld => ?_)
  replace GB := Aside0.mk (Below.drew GB.out)
  refine wpAnyH_take (i := 0) (oi := { dst := some 40, op := Op.load 33 (Operand.tmp 2), type := 33, pos := "ref.go:44", after := #[], guard := none }) (v := .agg #[.string H, .int .i64 room, .int .i64 mv, .int .i64 most, .int .i64 ((num + 1 : Nat) : Int), .int .i64 ((off + (k + 1) : Nat) : Int), .int .i64 hunt, .bool ov, .int .i64 bad]) rfl (by kernel_rfl) (by kernel_rfl) (by kernel_rfl) (fun _ _ _ h => h) (Or.inl ⟨by rfl, ?_⟩) (by assumption) ?_
  · intro W hSw
    have k0 := (blk_cell hSw.1 0).trans (show _ = some (Value.string H) from rfl)
    have k1 := (blk_cell hSw.1 1).trans (show _ = some (Value.int .i64 room) from rfl)
    have k2 := (blk_cell hSw.1 2).trans (show _ = some (Value.int .i64 mv) from rfl)
    have k3 := (blk_cell hSw.1 3).trans (show _ = some (Value.int .i64 most) from rfl)
    have k4 := (blk_cell hSw.1 4).trans (show _ = some (Value.int .i64 ((num + 1 : Nat) : Int)) from rfl)
    have k5 := (blk_cell hSw.1 5).trans (show _ = some (Value.int .i64 ((off + (k + 1) : Nat) : Int)) from rfl)
    have k6 := (blk_cell hSw.1 6).trans (show _ = some (Value.int .i64 hunt) from rfl)
    have k7 := (blk_cell hSw.1 7).trans (show _ = some (Value.bool ov) from rfl)
    have k8 := (blk_cell hSw.1 8).trans (show _ = some (Value.int .i64 bad) from rfl)
    clear hSw
    go_simp
    all_goals try with_reducible rfl
  try simp only [Act.put, List.setIfInBounds_toArray, List.set_cons_zero, List.set_cons_succ]
  refine wpAnyH_take (i := 1) (oi := { dst := some 41, op := Op.load 49 (Operand.tmp 7), type := 49, pos := "ref.go:44", after := #[{ on := 2, ground := Ground.gcOnly Departure.lateStores }], guard := none }) (v := .agg #[.int .i64 (num : Int), .int .i64 (off : Int), .string (H ++ R)]) rfl (by kernel_rfl) (by kernel_rfl) (by kernel_rfl) (fun _ _ _ h => h) (Or.inl ⟨by rfl, ?_⟩) (by assumption) ?_
  · intro W hSw
    have k0 := (blk_cell hSw.2 0).trans (show _ = some (Value.int .i64 (num : Int)) from rfl)
    have k1 := (blk_cell hSw.2 1).trans (show _ = some (Value.int .i64 (off : Int)) from rfl)
    have k2 := (blk_cell hSw.2 2).trans (show _ = some (Value.string (H ++ R)) from rfl)
    clear hSw
    go_simp
    all_goals try with_reducible rfl
  try simp only [Act.put, List.setIfInBounds_toArray, List.set_cons_zero, List.set_cons_succ]
  refine wpAnyH_ready (rs := [2]) (by kernel_rfl) (by simp) ?_
  refine AllReadyH.cons (o := { dst := none, op := Op.store 33 (Operand.tmp 4) (Operand.tmp 40), type := 0, pos := "ref.go:44", after := #[{ on := 0, ground := Ground.data }, { on := 0, ground := Ground.phase }, { on := 1, ground := Ground.textOnly Departure.lateStores }], guard := none }) rfl (fun K hK => ?_) AllReadyH.nil
  clear hHeld
  rw [if_pos (by rfl)]
  refine wp_store_row 33 (.tmp 4) (.tmp 40) rfl (w.heap.size + 1) #[.string H, .int .i64 room, .int .i64 mv, .int .i64 most, .int .i64 ((num + 1 : Nat) : Int), .int .i64 ((off + (k + 1) : Nat) : Int), .int .i64 hunt, .bool ov, .int .i64 bad] (by rfl) (by rfl) 33 #[.string ⟨#[]⟩, .int .i64 0, .int .i64 0, .int .i64 0, .int .i64 0, .int .i64 0, .int .i64 0, .bool false, .int .i64 0] G1.out info33 rfl (by simp [Value.oneCell']) ?_
  have G0a := Aside0.mk ((setRow_other _ (w.heap.size + 1) _ #[.string H, .int .i64 room, .int .i64 mv, .int .i64 most, .int .i64 ((num + 1 : Nat) : Int), .int .i64 ((off + (k + 1) : Nat) : Int), .int .i64 hunt, .bool ov, .int .i64 bad] (by show w.heap.size ≠ w.heap.size + 1; omega)).trans G0.out)
  have G3a := Aside0.mk ((setRow_other _ (w.heap.size + 1) _ #[.string H, .int .i64 room, .int .i64 mv, .int .i64 most, .int .i64 ((num + 1 : Nat) : Int), .int .i64 ((off + (k + 1) : Nat) : Int), .int .i64 hunt, .bool ov, .int .i64 bad] HG3.out.2.1).trans G3.out)
  have G2a := Aside0.mk ((setRow_other _ (w.heap.size + 1) _ #[.string H, .int .i64 room, .int .i64 mv, .int .i64 most, .int .i64 ((num + 1 : Nat) : Int), .int .i64 ((off + (k + 1) : Nat) : Int), .int .i64 hunt, .bool ov, .int .i64 bad] (by omega)).trans G2.out)
  have G1a := Aside0.mk (setRow_heap _ (w.heap.size + 1) #[.string ⟨#[]⟩, .int .i64 0, .int .i64 0, .int .i64 0, .int .i64 0, .int .i64 0, .int .i64 0, .bool false, .int .i64 0] #[.string H, .int .i64 room, .int .i64 mv, .int .i64 most, .int .i64 ((num + 1 : Nat) : Int), .int .i64 ((off + (k + 1) : Nat) : Int), .int .i64 hunt, .bool ov, .int .i64 bad] 33 (0, 0) G1.out)
  have GBa := Aside0.mk (below_setRow GB.out (show w.heap.size ≤ w.heap.size + 1 by omega) #[.string H, .int .i64 room, .int .i64 mv, .int .i64 most, .int .i64 ((num + 1 : Nat) : Int), .int .i64 ((off + (k + 1) : Nat) : Int), .int .i64 hunt, .bool ov, .int .i64 bad])
  refine hK.out _ _ ⟨G0a.out, G3a.out⟩ (fun hHeld => ?_)
  clear hK K G0 G1 G2 G3 GB
  have G0 := G0a
  have G1 := G1a
  have G2 := G2a
  have G3 := G3a
  have GB := GBa
  clear G0a G1a G2a G3a GBa
  try simp only [Act.put, List.setIfInBounds_toArray, List.set_cons_zero, List.set_cons_succ]
  refine wpAnyH_ready (rs := [3]) (by kernel_rfl) (by simp) ?_
  refine AllReadyH.cons (o := { dst := none, op := Op.store 49 (Operand.tmp 5) (Operand.tmp 41), type := 0, pos := "ref.go:44", after := #[{ on := 1, ground := Ground.data }, { on := 2, ground := Ground.chain }, { on := 0, ground := Ground.phase }, { on := 1, ground := Ground.phase }, { on := 2, ground := Ground.phase }], guard := none }) rfl (fun K hK => ?_) AllReadyH.nil
  clear hHeld
  rw [if_pos (by rfl)]
  refine wp_store_row 49 (.tmp 5) (.tmp 41) rfl (w.heap.size + 1 + 1) #[.int .i64 (num : Int), .int .i64 (off : Int), .string (H ++ R)] (by rfl) (by rfl) 49 #[.int .i64 0, .int .i64 0, .string ⟨#[]⟩] G2.out info49 rfl (by simp [Value.oneCell']) ?_
  have G0a := Aside0.mk ((setRow_other _ (w.heap.size + 1 + 1) _ #[.int .i64 (num : Int), .int .i64 (off : Int), .string (H ++ R)] (by show w.heap.size ≠ w.heap.size + 1 + 1; omega)).trans G0.out)
  have G3a := Aside0.mk ((setRow_other _ (w.heap.size + 1 + 1) _ #[.int .i64 (num : Int), .int .i64 (off : Int), .string (H ++ R)] HG3.out.2.2).trans G3.out)
  have G1a := Aside0.mk ((setRow_other _ (w.heap.size + 1 + 1) _ #[.int .i64 (num : Int), .int .i64 (off : Int), .string (H ++ R)] (by omega)).trans G1.out)
  have G2a := Aside0.mk (setRow_heap _ (w.heap.size + 1 + 1) #[.int .i64 0, .int .i64 0, .string ⟨#[]⟩] #[.int .i64 (num : Int), .int .i64 (off : Int), .string (H ++ R)] 49 (0, 0) G2.out)
  have GBa := Aside0.mk (below_setRow GB.out (show w.heap.size ≤ w.heap.size + 1 + 1 by omega) #[.int .i64 (num : Int), .int .i64 (off : Int), .string (H ++ R)])
  refine hK.out _ _ ⟨G0a.out, G3a.out⟩ (fun hHeld => ?_)
  clear hK K
  try simp only [Act.put, List.setIfInBounds_toArray, List.set_cons_zero, List.set_cons_succ]
  refine wpAnyH_done (by kernel_rfl) ?_ _
  go_wp2
  refine bodyPost_ret (results_cc rfl _ _ (w.heap.size + 1) (w.heap.size + 1 + 1) 33 49 #[.string H, .int .i64 room, .int .i64 mv, .int .i64 most, .int .i64 ((num + 1 : Nat) : Int), .int .i64 ((off + (k + 1) : Nat) : Int), .int .i64 hunt, .bool ov, .int .i64 bad] #[.int .i64 (num : Int), .int .i64 (off : Int), .string (H ++ R)] (0, 0) (0, 0) _ _ rfl G1a.out Try.underlying33 rfl info33 rfl G2a.out Try.underlying49 rfl info49) rfl ?_
  exact ⟨rfl, GBa.out⟩
set_option maxHeartbeats 8000000 in
set_option maxRecDepth 100000 in
theorem ref_line_n (H R H2 : ByteArray) (n k num off : Nat) (room mv room2 mv2 most hunt bad : Int) (ov : Bool) (hH : H.size = n) (hn : 0 < n) (hR : R.size = k) (h1 : num ≤ 1000000) (h2 : off ≤ 10000000000) (h3 : n + k ≤ 4000)
    (hAD : ∀ W, Calls Try.prog 32 #[.agg #[.string H, .int .i64 room, .int .i64 mv], .string R] W fun e w' => e = .returned (.agg #[.string H2, .int .i64 room2, .int .i64 mv2]) ∧ Below W.heap.size W w') (w : World) :
    Calls Try.prog 31 #[.agg (sA H room mv most (num : Int) (off : Int) hunt ov bad), .string R] w fun e w' => e = .returned (.tuple #[.agg (sA ⟨#[]⟩ room2 mv2 most ((num + 1 : Nat) : Int) ((off + (n + k + 1) : Nat) : Int) hunt ov bad), .agg #[.int .i64 (num : Int), .int .i64 (off : Int), .string (H ++ R)]]) ∧ Below w.heap.size w w' := by
  have hu33 := Try.underlying33
  have hu30 := Try.underlying30
  have hu49 := Try.underlying49
  have hz := zero33
  have hz9 := zero49
  have HAD := Aside0.mk hAD
  have hq : (H.toList == ([] : List UInt8)) = false := by
    rw [beq_eq_false_iff_ne]
    intro e
    have h2 : H.toList.length = H.size := by rw [ByteArray.toList_eq]; rfl
    rw [e] at h2
    simp at h2
    omega
  have hq2 : (H.toList != ([] : List UInt8)) = true := by rw [bne, hq]; rfl
  have hsz : H.size + R.size ≤ 9223372036854775807 := by omega
  have s0 := eq_true hsz
  have s2 : (9223372036854775807 < H.size + R.size) = False := eq_false (by omega)
  have s1 : decide (H.size + R.size ≤ 9223372036854775807) = true := decide_eq_true hsz
  have hT : (H ++ R).size = n + k := by rw [ByteArray.size_append, hH, hR]
  obtain ⟨hw1, hw2, hw3, hw4⟩ := ref_w h1 h2 h3
  obtain ⟨hw5, hw6⟩ := ref_w2 h2 h3
  clear hw2 hw3 hw4
  have E0a := Aside0.mk (blk_below (blk_new w (.cells (sA H room mv most (num : Int) (off : Int) hunt ov bad) 33)) (below_alloc (below_alloc (Below.refl _ _) (.cells #[.string ⟨#[]⟩, .int .i64 0, .int .i64 0, .int .i64 0, .int .i64 0, .int .i64 0, .int .i64 0, .bool false, .int .i64 0] 33)) (.cells #[.int .i64 0, .int .i64 0, .string ⟨#[]⟩] 49)))
  have E1a := Aside0.mk (blk_alloc (blk_new (w.alloc (.cells (sA H room mv most (num : Int) (off : Int) hunt ov bad) 33)) (.cells #[.string ⟨#[]⟩, .int .i64 0, .int .i64 0, .int .i64 0, .int .i64 0, .int .i64 0, .int .i64 0, .bool false, .int .i64 0] 33)) (.cells #[.int .i64 0, .int .i64 0, .string ⟨#[]⟩] 49))
  have E2a := Aside0.mk (blk_new ((w.alloc (.cells (sA H room mv most (num : Int) (off : Int) hunt ov bad) 33)).alloc (.cells #[.string ⟨#[]⟩, .int .i64 0, .int .i64 0, .int .i64 0, .int .i64 0, .int .i64 0, .int .i64 0, .bool false, .int .i64 0] 33)) (.cells #[.int .i64 0, .int .i64 0, .string ⟨#[]⟩] 49))
  have EBa := Aside0.mk (below_alloc (below_alloc (below_alloc (Below.refl w.heap.size w) (.cells (sA H room mv most (num : Int) (off : Int) hunt ov bad) 33)) (.cells #[.string ⟨#[]⟩, .int .i64 0, .int .i64 0, .int .i64 0, .int .i64 0, .int .i64 0, .int .i64 0, .bool false, .int .i64 0] 33)) (.cells #[.int .i64 0, .int .i64 0, .string ⟨#[]⟩] 49))
  rw [World.size_alloc] at E1a
  rw [World.size_alloc, World.size_alloc] at E2a
  clear h1 h2 h3 hsz hH hR hAD hn
  go_enter Try.func31, Try.ntmps31
  go_wp2_with fail
  refine (HAD.out _).mono ?_
  rintro e w3 ⟨rfl, hb3⟩
  have E0b := Aside0.mk (blk_below E0a.out hb3)
  have E1b := Aside0.mk (blk_below E1a.out hb3)
  have E2b := Aside0.mk (blk_below E2a.out hb3)
  have EBb := Aside0.mk (Below.trans EBa.out (hb3.mono EBa.out.size))
  clear hb3 E0a E1a E2a EBa HAD
  go_wp2_with fail
  refine (ref_clear H2 room2 mv2 w3).mono ?_
  rintro e w4 ⟨rfl, hb4⟩
  have E0 := Aside0.mk (blk_below E0b.out hb4)
  have E1 := Aside0.mk (blk_below E1b.out hb4)
  have E2 := Aside0.mk (blk_below E2b.out hb4)
  have EB := Aside0.mk (Below.trans EBb.out (hb4.mono EBb.out.size))
  clear hb4 E0b E1b E2b EBb
  have k0 := (blk_cell E0.out 0).trans (show _ = some (Value.string H) from rfl)
  have y0 := blk_frozen E0.out 0
  have k1 := (blk_cell E0.out 1).trans (show _ = some (Value.int .i64 room) from rfl)
  have y1 := blk_frozen E0.out 1
  have k2 := (blk_cell E0.out 2).trans (show _ = some (Value.int .i64 mv) from rfl)
  have y2 := blk_frozen E0.out 2
  have k3 := (blk_cell E0.out 3).trans (show _ = some (Value.int .i64 most) from rfl)
  have y3 := blk_frozen E0.out 3
  have k4 := (blk_cell E0.out 4).trans (show _ = some (Value.int .i64 (num : Int)) from rfl)
  have y4 := blk_frozen E0.out 4
  have k5 := (blk_cell E0.out 5).trans (show _ = some (Value.int .i64 (off : Int)) from rfl)
  have y5 := blk_frozen E0.out 5
  have k6 := (blk_cell E0.out 6).trans (show _ = some (Value.int .i64 hunt) from rfl)
  have y6 := blk_frozen E0.out 6
  have k7 := (blk_cell E0.out 7).trans (show _ = some (Value.bool ov) from rfl)
  have y7 := blk_frozen E0.out 7
  have k8 := (blk_cell E0.out 8).trans (show _ = some (Value.int .i64 bad) from rfl)
  have y8 := blk_frozen E0.out 8
  have hlt4 := blk_lt E0.out
  go_wp2
  have hwr4 : (off : Int) + ((n : Int) + (k : Int) + 1) = ((off + (n + k + 1) : Nat) : Int) := by omega
  have hwr5 : (num : Int) + 1 = ((num + 1 : Nat) : Int) := rfl
  rw [hwr4, hwr5]
  have P0 := blk_put (cs' := #[.string ⟨#[]⟩, .int .i64 room, .int .i64 mv, .int .i64 most, .int .i64 (num : Int), .int .i64 (off : Int), .int .i64 hunt, .bool ov, .int .i64 bad]) E0.out 0 (.string ⟨#[]⟩) rfl
  have P1 := blk_put (cs' := #[.string ⟨#[]⟩, .int .i64 room2, .int .i64 mv, .int .i64 most, .int .i64 (num : Int), .int .i64 (off : Int), .int .i64 hunt, .bool ov, .int .i64 bad]) P0 1 (.int .i64 room2) rfl
  have P2 := blk_put (cs' := #[.string ⟨#[]⟩, .int .i64 room2, .int .i64 mv2, .int .i64 most, .int .i64 (num : Int), .int .i64 (off : Int), .int .i64 hunt, .bool ov, .int .i64 bad]) P1 2 (.int .i64 mv2) rfl
  have P3 := blk_put (cs' := #[.string ⟨#[]⟩, .int .i64 room2, .int .i64 mv2, .int .i64 most, .int .i64 ((num + 1 : Nat) : Int), .int .i64 (off : Int), .int .i64 hunt, .bool ov, .int .i64 bad]) P2 4 (.int .i64 ((num + 1 : Nat) : Int)) rfl
  have P4 := blk_put (cs' := #[.string ⟨#[]⟩, .int .i64 room2, .int .i64 mv2, .int .i64 most, .int .i64 ((num + 1 : Nat) : Int), .int .i64 ((off + (n + k + 1) : Nat) : Int), .int .i64 hunt, .bool ov, .int .i64 bad]) P3 5 (.int .i64 ((off + (n + k + 1) : Nat) : Int)) rfl
  have E1q0 := blk_far E1.out (p := ⟨w.heap.size, 0, none⟩) (show w.heap.size + 1 ≠ w.heap.size by omega) (.string ⟨#[]⟩)
  have E1q1 := blk_far E1q0 (p := ⟨w.heap.size, 1, none⟩) (show w.heap.size + 1 ≠ w.heap.size by omega) (.int .i64 room2)
  have E1q2 := blk_far E1q1 (p := ⟨w.heap.size, 2, none⟩) (show w.heap.size + 1 ≠ w.heap.size by omega) (.int .i64 mv2)
  have E1q3 := blk_far E1q2 (p := ⟨w.heap.size, 4, none⟩) (show w.heap.size + 1 ≠ w.heap.size by omega) (.int .i64 ((num + 1 : Nat) : Int))
  have E1q4 := blk_far E1q3 (p := ⟨w.heap.size, 5, none⟩) (show w.heap.size + 1 ≠ w.heap.size by omega) (.int .i64 ((off + (n + k + 1) : Nat) : Int))
  have E2q0 := blk_far E2.out (p := ⟨w.heap.size, 0, none⟩) (show w.heap.size + 1 + 1 ≠ w.heap.size by omega) (.string ⟨#[]⟩)
  have E2q1 := blk_far E2q0 (p := ⟨w.heap.size, 1, none⟩) (show w.heap.size + 1 + 1 ≠ w.heap.size by omega) (.int .i64 room2)
  have E2q2 := blk_far E2q1 (p := ⟨w.heap.size, 2, none⟩) (show w.heap.size + 1 + 1 ≠ w.heap.size by omega) (.int .i64 mv2)
  have E2q3 := blk_far E2q2 (p := ⟨w.heap.size, 4, none⟩) (show w.heap.size + 1 + 1 ≠ w.heap.size by omega) (.int .i64 ((num + 1 : Nat) : Int))
  have E2q4 := blk_far E2q3 (p := ⟨w.heap.size, 5, none⟩) (show w.heap.size + 1 + 1 ≠ w.heap.size by omega) (.int .i64 ((off + (n + k + 1) : Nat) : Int))
  have EBq0 := Below.setCell (p := ⟨w.heap.size, 0, none⟩) EB.out (Nat.le_refl _) (.string ⟨#[]⟩)
  have EBq1 := Below.setCell (p := ⟨w.heap.size, 1, none⟩) EBq0 (Nat.le_refl _) (.int .i64 room2)
  have EBq2 := Below.setCell (p := ⟨w.heap.size, 2, none⟩) EBq1 (Nat.le_refl _) (.int .i64 mv2)
  have EBq3 := Below.setCell (p := ⟨w.heap.size, 4, none⟩) EBq2 (Nat.le_refl _) (.int .i64 ((num + 1 : Nat) : Int))
  have EBq4 := Below.setCell (p := ⟨w.heap.size, 5, none⟩) EBq3 (Nat.le_refl _) (.int .i64 ((off + (n + k + 1) : Nat) : Int))
  have hlt5 := blk_lt E2q4
  have G0 := Aside0.mk (blk_alloc P4 (.cells #[.int .i64 (num : Int), .int .i64 (off : Int), .string (H ++ R)] 49))
  have G1 := Aside0.mk (blk_alloc E1q4 (.cells #[.int .i64 (num : Int), .int .i64 (off : Int), .string (H ++ R)] 49))
  have G2 := Aside0.mk (blk_alloc E2q4 (.cells #[.int .i64 (num : Int), .int .i64 (off : Int), .string (H ++ R)] 49))
  have G3 := Aside0.mk (blk_new (((((w4.setCell ⟨w.heap.size, 0, none⟩ (.string ⟨#[]⟩)).setCell ⟨w.heap.size, 1, none⟩ (.int .i64 room2)).setCell ⟨w.heap.size, 2, none⟩ (.int .i64 mv2)).setCell ⟨w.heap.size, 4, none⟩ (.int .i64 ((num + 1 : Nat) : Int))).setCell ⟨w.heap.size, 5, none⟩ (.int .i64 ((off + (n + k + 1) : Nat) : Int))) (.cells #[.int .i64 (num : Int), .int .i64 (off : Int), .string (H ++ R)] 49))
  have GB := Aside0.mk (below_alloc EBq4 (.cells #[.int .i64 (num : Int), .int .i64 (off : Int), .string (H ++ R)] 49))
  have hsz4 : (((((w4.setCell ⟨w.heap.size, 0, none⟩ (.string ⟨#[]⟩)).setCell ⟨w.heap.size, 1, none⟩ (.int .i64 room2)).setCell ⟨w.heap.size, 2, none⟩ (.int .i64 mv2)).setCell ⟨w.heap.size, 4, none⟩ (.int .i64 ((num + 1 : Nat) : Int))).setCell ⟨w.heap.size, 5, none⟩ (.int .i64 ((off + (n + k + 1) : Nat) : Int))).heap.size = w4.heap.size := by simp
  rw [hsz4] at G3 hlt5
  have HG3 := Aside0.mk (show True ∧ w4.heap.size ≠ w.heap.size + 1 ∧ w4.heap.size ≠ w.heap.size + 1 + 1 from ⟨trivial, by omega, by omega⟩)
  clear P0 P1 P2 P3 P4 E1q0 E1q1 E1q2 E1q3 E1q4 E2q0 E2q1 E2q2 E2q3 E2q4 EBq0 EBq1 EBq2 EBq3 EBq4 hsz4 hlt5 hlt4 hwr4 hwr5 hw1 hw5 hw6 E0 E1 E2 EB s0 s1 s2 hT hq hq2 k0 k1 k2 k3 k4 k5 k6 k7 k8 y0 y1 y2 y3 y4 y5 y6 y7 y8
  generalize (((((w4.setCell ⟨w.heap.size, 0, none⟩ (.string ⟨#[]⟩)).setCell ⟨w.heap.size, 1, none⟩ (.int .i64 room2)).setCell ⟨w.heap.size, 2, none⟩ (.int .i64 mv2)).setCell ⟨w.heap.size, 4, none⟩ (.int .i64 ((num + 1 : Nat) : Int))).setCell ⟨w.heap.size, 5, none⟩ (.int .i64 ((off + (n + k + 1) : Nat) : Int))).alloc (.cells #[.int .i64 (num : Int), .int .i64 (off : Int), .string (H ++ R)] 49) = X at G0 G1 G2 G3 GB ⊢
  generalize w4.heap.size = g3 at G3 HG3 ⊢
  refine wp_region_held_drew (S := fun w' => w'.heap[w.heap.size]? = some (.cells #[.string ⟨#[]⟩, .int .i64 room2, .int .i64 mv2, .int .i64 most, .int .i64 ((num + 1 : Nat) : Int), .int .i64 ((off + (n + k + 1) : Nat) : Int), .int .i64 hunt, .bool ov, .int .i64 bad] 33 (0, 0)) ∧ w'.heap[g3]? = some (.cells #[.int .i64 (num : Int), .int .i64 (off : Int), .string (H ++ R)] 49 (0, 0))) (by kernel_rfl) ⟨G0.out, G3.out⟩ (fun hHeld => ?_)
  replace GB := Aside0.mk (Below.drew GB.out)
  refine wpAnyH_take (i := 0) (oi := { dst := some 40, op := Op.load 33 (Operand.tmp 2), type := 33, pos := "ref.go:44", after := #[], guard := none }) (v := .agg #[.string ⟨#[]⟩, .int .i64 room2, .int .i64 mv2, .int .i64 most, .int .i64 ((num + 1 : Nat) : Int), .int .i64 ((off + (n + k + 1) : Nat) : Int), .int .i64 hunt, .bool ov, .int .i64 bad]) rfl (by kernel_rfl) (by kernel_rfl) (by kernel_rfl) (fun _ _ _ h => h) (Or.inl ⟨by rfl, ?_⟩) (by assumption) ?_
  · intro W hSw
    have k0 := (blk_cell hSw.1 0).trans (show _ = some (Value.string ⟨#[]⟩) from rfl)
    have k1 := (blk_cell hSw.1 1).trans (show _ = some (Value.int .i64 room2) from rfl)
    have k2 := (blk_cell hSw.1 2).trans (show _ = some (Value.int .i64 mv2) from rfl)
    have k3 := (blk_cell hSw.1 3).trans (show _ = some (Value.int .i64 most) from rfl)
    have k4 := (blk_cell hSw.1 4).trans (show _ = some (Value.int .i64 ((num + 1 : Nat) : Int)) from rfl)
    have k5 := (blk_cell hSw.1 5).trans (show _ = some (Value.int .i64 ((off + (n + k + 1) : Nat) : Int)) from rfl)
    have k6 := (blk_cell hSw.1 6).trans (show _ = some (Value.int .i64 hunt) from rfl)
    have k7 := (blk_cell hSw.1 7).trans (show _ = some (Value.bool ov) from rfl)
    have k8 := (blk_cell hSw.1 8).trans (show _ = some (Value.int .i64 bad) from rfl)
    clear hSw
    go_simp
    all_goals try with_reducible rfl
  try simp only [Act.put, List.setIfInBounds_toArray, List.set_cons_zero, List.set_cons_succ]
  refine wpAnyH_take (i := 1) (oi := { dst := some 41, op := Op.load 49 (Operand.tmp 7), type := 49, pos := "ref.go:44", after := #[{ on := 2, ground := Ground.gcOnly Departure.lateStores }], guard := none }) (v := .agg #[.int .i64 (num : Int), .int .i64 (off : Int), .string (H ++ R)]) rfl (by kernel_rfl) (by kernel_rfl) (by kernel_rfl) (fun _ _ _ h => h) (Or.inl ⟨by rfl, ?_⟩) (by assumption) ?_
  · intro W hSw
    have k0 := (blk_cell hSw.2 0).trans (show _ = some (Value.int .i64 (num : Int)) from rfl)
    have k1 := (blk_cell hSw.2 1).trans (show _ = some (Value.int .i64 (off : Int)) from rfl)
    have k2 := (blk_cell hSw.2 2).trans (show _ = some (Value.string (H ++ R)) from rfl)
    clear hSw
    go_simp
    all_goals try with_reducible rfl
  try simp only [Act.put, List.setIfInBounds_toArray, List.set_cons_zero, List.set_cons_succ]
  refine wpAnyH_ready (rs := [2]) (by kernel_rfl) (by simp) ?_
  refine AllReadyH.cons (o := { dst := none, op := Op.store 33 (Operand.tmp 4) (Operand.tmp 40), type := 0, pos := "ref.go:44", after := #[{ on := 0, ground := Ground.data }, { on := 0, ground := Ground.phase }, { on := 1, ground := Ground.textOnly Departure.lateStores }], guard := none }) rfl (fun K hK => ?_) AllReadyH.nil
  clear hHeld
  rw [if_pos (by rfl)]
  refine wp_store_row 33 (.tmp 4) (.tmp 40) rfl (w.heap.size + 1) #[.string ⟨#[]⟩, .int .i64 room2, .int .i64 mv2, .int .i64 most, .int .i64 ((num + 1 : Nat) : Int), .int .i64 ((off + (n + k + 1) : Nat) : Int), .int .i64 hunt, .bool ov, .int .i64 bad] (by rfl) (by rfl) 33 #[.string ⟨#[]⟩, .int .i64 0, .int .i64 0, .int .i64 0, .int .i64 0, .int .i64 0, .int .i64 0, .bool false, .int .i64 0] G1.out info33 rfl (by simp [Value.oneCell']) ?_
  have G0a := Aside0.mk ((setRow_other _ (w.heap.size + 1) _ #[.string ⟨#[]⟩, .int .i64 room2, .int .i64 mv2, .int .i64 most, .int .i64 ((num + 1 : Nat) : Int), .int .i64 ((off + (n + k + 1) : Nat) : Int), .int .i64 hunt, .bool ov, .int .i64 bad] (by show w.heap.size ≠ w.heap.size + 1; omega)).trans G0.out)
  have G3a := Aside0.mk ((setRow_other _ (w.heap.size + 1) _ #[.string ⟨#[]⟩, .int .i64 room2, .int .i64 mv2, .int .i64 most, .int .i64 ((num + 1 : Nat) : Int), .int .i64 ((off + (n + k + 1) : Nat) : Int), .int .i64 hunt, .bool ov, .int .i64 bad] HG3.out.2.1).trans G3.out)
  have G2a := Aside0.mk ((setRow_other _ (w.heap.size + 1) _ #[.string ⟨#[]⟩, .int .i64 room2, .int .i64 mv2, .int .i64 most, .int .i64 ((num + 1 : Nat) : Int), .int .i64 ((off + (n + k + 1) : Nat) : Int), .int .i64 hunt, .bool ov, .int .i64 bad] (by omega)).trans G2.out)
  have G1a := Aside0.mk (setRow_heap _ (w.heap.size + 1) #[.string ⟨#[]⟩, .int .i64 0, .int .i64 0, .int .i64 0, .int .i64 0, .int .i64 0, .int .i64 0, .bool false, .int .i64 0] #[.string ⟨#[]⟩, .int .i64 room2, .int .i64 mv2, .int .i64 most, .int .i64 ((num + 1 : Nat) : Int), .int .i64 ((off + (n + k + 1) : Nat) : Int), .int .i64 hunt, .bool ov, .int .i64 bad] 33 (0, 0) G1.out)
  have GBa := Aside0.mk (below_setRow GB.out (show w.heap.size ≤ w.heap.size + 1 by omega) #[.string ⟨#[]⟩, .int .i64 room2, .int .i64 mv2, .int .i64 most, .int .i64 ((num + 1 : Nat) : Int), .int .i64 ((off + (n + k + 1) : Nat) : Int), .int .i64 hunt, .bool ov, .int .i64 bad])
  refine hK.out _ _ ⟨G0a.out, G3a.out⟩ (fun hHeld => ?_)
  clear hK K G0 G1 G2 G3 GB
  have G0 := G0a
  have G1 := G1a
  have G2 := G2a
  have G3 := G3a
  have GB := GBa
  clear G0a G1a G2a G3a GBa
  try simp only [Act.put, List.setIfInBounds_toArray, List.set_cons_zero, List.set_cons_succ]
  refine wpAnyH_ready (rs := [3]) (by kernel_rfl) (by simp) ?_
  refine AllReadyH.cons (o := { dst := none, op := Op.store 49 (Operand.tmp 5) (Operand.tmp 41), type := 0, pos := "ref.go:44", after := #[{ on := 1, ground := Ground.data }, { on := 2, ground := Ground.chain }, { on := 0, ground := Ground.phase }, { on := 1, ground := Ground.phase }, { on := 2, ground := Ground.phase }], guard := none }) rfl (fun K hK => ?_) AllReadyH.nil
  clear hHeld
  rw [if_pos (by rfl)]
  refine wp_store_row 49 (.tmp 5) (.tmp 41) rfl (w.heap.size + 1 + 1) #[.int .i64 (num : Int), .int .i64 (off : Int), .string (H ++ R)] (by rfl) (by rfl) 49 #[.int .i64 0, .int .i64 0, .string ⟨#[]⟩] G2.out info49 rfl (by simp [Value.oneCell']) ?_
  have G0a := Aside0.mk ((setRow_other _ (w.heap.size + 1 + 1) _ #[.int .i64 (num : Int), .int .i64 (off : Int), .string (H ++ R)] (by show w.heap.size ≠ w.heap.size + 1 + 1; omega)).trans G0.out)
  have G3a := Aside0.mk ((setRow_other _ (w.heap.size + 1 + 1) _ #[.int .i64 (num : Int), .int .i64 (off : Int), .string (H ++ R)] HG3.out.2.2).trans G3.out)
  have G1a := Aside0.mk ((setRow_other _ (w.heap.size + 1 + 1) _ #[.int .i64 (num : Int), .int .i64 (off : Int), .string (H ++ R)] (by omega)).trans G1.out)
  have G2a := Aside0.mk (setRow_heap _ (w.heap.size + 1 + 1) #[.int .i64 0, .int .i64 0, .string ⟨#[]⟩] #[.int .i64 (num : Int), .int .i64 (off : Int), .string (H ++ R)] 49 (0, 0) G2.out)
  have GBa := Aside0.mk (below_setRow GB.out (show w.heap.size ≤ w.heap.size + 1 + 1 by omega) #[.int .i64 (num : Int), .int .i64 (off : Int), .string (H ++ R)])
  refine hK.out _ _ ⟨G0a.out, G3a.out⟩ (fun hHeld => ?_)
  clear hK K
  try simp only [Act.put, List.setIfInBounds_toArray, List.set_cons_zero, List.set_cons_succ]
  refine wpAnyH_done (by kernel_rfl) ?_ _
  go_wp2
  refine bodyPost_ret (results_cc rfl _ _ (w.heap.size + 1) (w.heap.size + 1 + 1) 33 49 #[.string ⟨#[]⟩, .int .i64 room2, .int .i64 mv2, .int .i64 most, .int .i64 ((num + 1 : Nat) : Int), .int .i64 ((off + (n + k + 1) : Nat) : Int), .int .i64 hunt, .bool ov, .int .i64 bad] #[.int .i64 (num : Int), .int .i64 (off : Int), .string (H ++ R)] (0, 0) (0, 0) _ _ rfl G1a.out Try.underlying33 rfl info33 rfl G2a.out Try.underlying49 rfl info49) rfl ?_
  exact ⟨rfl, GBa.out⟩
end Go.Proofs.Ytgiaabgmnjaefaa.Str
end
/- The document's line, of a stream. -/
section
namespace Go.Proofs.Ytgiaabgmnjaefaa.Str
open Go Go.RowKit Go.Proofs Go.Proofs.Ytgiaabgmnjaefaa.Met Go.Proofs.Ytgiaabgmnjaefaa.Win Go.Proofs.YtgiaabgmnjaefaaW.PrintWords Go.Proofs.YtgiaabgmnjaefaaW.PrintMore
set_option linter.unusedVariables false
set_option linter.unusedSimpArgs false
theorem ref_line (s : SS) (rest : List Int) (m : Nat) (hb : Bd s m) (hm : m ≤ 100000) (hl : s.st.held.length + rest.length ≤ 4000) (w : World) :
    Calls Try.prog 31 #[.agg (refA s), .string (strOfNums rest)] w fun e w' => e = .returned (.tuple #[.agg (refA (lineS s rest)), .agg (lnA (lnOf s rest))]) ∧ Below w.heap.size w w' := by
  have h1 := hb.room
  have h2 := hb.held
  have h3 := hb.mv
  have h4 := hb.num
  have h5 := hb.off
  by_cases h0 : s.st.held.length = 0
  · have h := ref_line_e (strOfNums s.st.held) (strOfNums rest) rest.length s.num s.off (s.st.room : Int) (s.st.mv : Int) s.most (s.hunt : Int) s.bad s.over (by rw [strOfNums_size]; exact h0) (strOfNums_size _) (by omega) (by omega) (by omega) w
    have e1 : refA (lineS s rest) = sA (strOfNums s.st.held) (s.st.room : Int) (s.st.mv : Int) s.most ((s.num + 1 : Nat) : Int) ((s.off + (rest.length + 1) : Nat) : Int) (s.hunt : Int) s.over s.bad := by
      have hst : (lineS s rest).st = s.st := if_pos h0
      unfold refA
      rw [hst]
      have ho : (lineS s rest).off = s.off + (rest.length + 1) := by show s.off + ((s.st.held ++ rest).length + 1) = _; rw [List.length_append]; omega
      rw [ho]
      rfl
    have e2 : lnA (lnOf s rest) = #[.int .i64 (s.num : Int), .int .i64 (s.off : Int), .string (strOfNums s.st.held ++ strOfNums rest)] := by
      unfold lnA lnOf
      dsimp only
      rw [str_app]
    rw [e1, e2]
    exact h
  · have ha := fun W => ref_add s.st rest h1 h2 (by omega) (by omega) W
    have h := ref_line_n (strOfNums s.st.held) (strOfNums rest) (strOfNums (addS s.st rest).held) s.st.held.length rest.length s.num s.off (s.st.room : Int) (s.st.mv : Int) ((addS s.st rest).room : Int) ((addS s.st rest).mv : Int) s.most (s.hunt : Int) s.bad s.over (strOfNums_size _) (by omega) (strOfNums_size _) (by omega) (by omega) (by omega) ha w
    have he : strOfNums [] = ⟨#[]⟩ := by decide +kernel
    have e1 : refA (lineS s rest) = sA ⟨#[]⟩ ((addS s.st rest).room : Int) ((addS s.st rest).mv : Int) s.most ((s.num + 1 : Nat) : Int) ((s.off + (s.st.held.length + rest.length + 1) : Nat) : Int) (s.hunt : Int) s.over s.bad := by
      have hst : (lineS s rest).st = clearS (addS s.st rest) := if_neg h0
      unfold refA
      rw [hst]
      have ho : (lineS s rest).off = s.off + (s.st.held.length + rest.length + 1) := by show s.off + ((s.st.held ++ rest).length + 1) = _; rw [List.length_append]
      rw [ho, ← he]
      rfl
    have e2 : lnA (lnOf s rest) = #[.int .i64 (s.num : Int), .int .i64 (s.off : Int), .string (strOfNums s.st.held ++ strOfNums rest)] := by
      unfold lnA lnOf
      dsimp only
      rw [str_app]
    rw [e1, e2]
    exact h
end Go.Proofs.Ytgiaabgmnjaefaa.Str
end
