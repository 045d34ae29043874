/- What the window and the meter do else: Bytes, Len, Room, Clear, Counts, and what is new; of none too. -/
import Derived.Test.YtgiaabgmnjaefaaWinD
import Derived.Test.YtgiaabgmnjaefaaWMore
import Derived.Deep.RegionHeld3
import Derived.Deep.QuietTactic
import Derived.BigQuiet
import Derived.RowKit3
import Derived.WideLaws
import Derived.Deep.DeepCutAuto
import Derived.Deep.CutBlock
import Derived.RowKit
import Derived.OwnWalk
import Derived.Laws.MakeOwn
import Derived.WalkSpells
import Derived.Lib.LazyBuf
import Derived.Laws.Slices
import Derived.OwnWalk
namespace Go.Proofs.Ytgiaabgmnjaefaa.Win
open Go Go.RowKit Go.Proofs Go.Proofs.Ytgiaabgmnjaefaa.Met Go.Proofs.YtgiaabgmnjaefaaW.PrintWords Go.Proofs.YtgiaabgmnjaefaaW.PrintMore
set_option linter.unusedVariables false
set_option linter.unusedSimpArgs false
attribute [local go_sem] max2_int min2_int max_two min_two max_three min_three
--BEGIN
theorem stepX {wr wj : World} {b o : Nat} {v : Value} (hx : wr.cell? ⟨b, o, none⟩ = some v) (hb' : Below wr.drew.heap.size wr.drew wj) : wj.cell? ⟨b, o, none⟩ = some v :=
  (hb'.cell (p := ⟨b, o, none⟩) (World.block_lt_of_cell? _ _ hx)).trans hx
theorem info5 : (Try.prog.info? 5).map (fun i => (i.zero, i.size, i.bytes)) = some (some (.int .u8 0), 1, 1) := by kernel_rfl
set_option maxHeartbeats 8000000 in
set_option maxRecDepth 100000 in
theorem clone_calls (A0 : Option Addr) (c0 : Nat) (l0 : List Int) (n : Nat) (w : World) (hr0 : Kd.C (Kd.int .u8) w A0 l0.length l0) (hc0 : l0.length ≤ c0) (hn : n = l0.length) (hl : l0.length < 140737488355328) :
    Calls Try.prog 34 #[.slice A0 n c0] w fun e w' => ∃ v0_ : Value, e = .returned v0_ ∧ Kd.R (Kd.int .u8) 5 w' w.heap.size (fun _ => True) v0_ l0 ∧ Below w.heap.size w w' := by
  subst hn
  have HR := Aside0.mk hr0
  cases A0 with
  | none =>
    have h0 : l0 = [] := by
      rcases Nat.eq_zero_or_pos l0.length with h | h
      · exact List.length_eq_zero_iff.mp h
      · obtain ⟨ad, e, _⟩ := hr0.2.2 h
        cases e
    subst h0
    clear hr0 hc0 hl
    have heq := Lib.run_eql_slice_nil (P := Try.prog) w 38 5 none 0 c0 0 0 Try.underlying38
    go_enter Try.func34, Try.ntmps34
    go_wp2
    go_ret
    exact ⟨_, rfl, Kd.R_nil _ _ _ _ _, Below.refl _ _⟩
  | some ad =>
    clear hr0
    have heq := Lib.run_eql_slice_nil (P := Try.prog) w 38 5 (some ad) l0.length c0 0 0 Try.underlying38
    have HO := Aside0.mk (show Kd.R (Kd.int .u8) 5 (w.alloc (.cells #[] 5)) w.heap.size (fun _ => True) (.slice (some ⟨w.heap.size, 0, none⟩) 0 0) [] from
      ⟨fun _ _ => trivial, [], World.ownsRow_lit (base := w.heap.size) (e := 5) (size := 1) w #[] 0 (Nat.le_refl _) (by decide) (by simp), Reps.none _ _⟩)
    have HX := Aside0.mk (Kd.C_alloc HR.out (.cells #[] 5))
    have HB := Aside0.mk (below_alloc (Below.refl w.heap.size w) (.cells #[] 5))
    go_enter Try.func34, Try.ntmps34
    go_wp2_with (at_builtin; refine Kd.R_append_rows (Kd.int .u8) (w0 := w) w.heap.size rfl (.tmp 5) (.tmp 6) 38 5 (.int .u8 0) 1 rfl Try.underlying38 info5 rfl (by decide) (by decide) (.slice (some ⟨w.heap.size, 0, none⟩) 0 0) [] l0 (some ad) l0.length c0 (fun _ => True) (fun _ => False) rfl rfl HO.out HX.out (fun _ _ h => h) (fun _ h => h.elim) (fun _ _ => trivial) HB.out (by simp) (by simpa using Nat.le_of_lt hl) ?_; intro v1 w1 hr1 hb1 hg1 hat1)
    go_ret
    exact ⟨_, rfl, by simpa using hr1, hb1⟩
/-- what a window's row holds, to be read -/
theorem WinAt.reads {w : World} {g : Nat} {M : Option Nat} {a b c : Int} {A : Option Addr} {buf : List Int} {hh mv : Nat} (h : WinAt w g M a b c A buf hh mv) (hl : buf.length ≤ 9223372036854775807) : Kd.C (Kd.int .u8) w A (buf.take hh).length (buf.take hh) := by
  refine Kd.C_of_reads (d := (0 : Int)) (h1 := fun _ => rfl) ⟨rfl, by rw [List.length_take]; omega, fun hp => ?_⟩
  rw [List.length_take] at hp
  obtain ⟨gb, hA, hgb, _, _⟩ := h.row (by omega)
  refine ⟨_, hA, fun j hj => ?_⟩
  rw [Addr.add_mid, Nat.zero_add]
  rw [List.length_take] at hj
  refine (blk_cell hgb j).trans ?_
  rw [u8s_get, List.getD_eq_getElem?_getD, List.getElem?_take, if_pos (by omega), List.getElem?_eq_getElem (by omega)]
  rfl
theorem cut3 (A : Option Addr) (n h : Nat) (h1 : h ≤ n) (W : World) : (Instr.slice 38 (.slice A n n) none (some (.int .i64 (h : Int))) (some (.int .i64 (h : Int)))).run Try.prog W = .ok (.slice A h h) W := by
  obtain ⟨i, hi, hz, hs, hb⟩ := info5a
  have ha : (A.map fun x => x.add 0) = A := by cases A <;> simp [Addr.add]
  have q : ((h : Int) ≤ (n : Int)) := by omega
  simp [Instr.slice, Sem.run_bind, run_underlying (P := Try.prog) Try.underlying38, Instr.sliceBounds, run_sliceBound, sizeOf, typeInfo, hi, hs, ha, h1, q]
set_option maxHeartbeats 8000000 in
set_option maxRecDepth 100000 in
theorem bytes_calls {w : World} {g : Nat} {M : Option Nat} {a b c : Int} {A : Option Addr} {buf : List Int} {hh mv : Nat} (h : WinAt w g M a b c A buf hh mv) (hl : buf.length ≤ 100000000000) :
    Calls Try.prog 35 #[.pointer (some ⟨g, 0, none⟩)] w fun e w' => ∃ v0_ : Value, e = .returned v0_ ∧ Kd.R (Kd.int .u8) 5 w' w.heap.size (fun _ => True) v0_ (buf.take hh) ∧ Below w.heap.size w w' := by
  have HR := Aside0.mk (h.reads (by omega))
  have p1 : w.cell? ⟨g, 1, none⟩ = some (.slice A buf.length buf.length) := (blk_cell h.win 1).trans rfl
  have p2 : w.cell? ⟨g, 2, none⟩ = some (.int .i64 (hh : Int)) := (blk_cell h.win 2).trans rfl
  have hct := cut3 A buf.length hh h.le
  have hu48 := Try.underlying83
  have HLE := Aside0.mk (show hh = (buf.take hh).length by rw [List.length_take]; have := h.le; omega)
  have HLL := Aside0.mk (show (buf.take hh).length < 140737488355328 by rw [List.length_take]; omega)
  generalize buf.take hh = L at HR HLE HLL ⊢
  clear h
  go_enter Try.func35, Try.ntmps35
  go_wp2_with fail
  go_region_held3 (fun w' => w'.cell? ⟨g, 1, none⟩ = some (.slice A buf.length buf.length) ∧ w'.cell? ⟨g, 2, none⟩ = some (.int .i64 (hh : Int)))
    (first | exact ⟨p1, p2⟩ | go_keep)
    ((first
      | (go_at_call 34; refine (clone_calls A hh L hh w.drew HR.out (Nat.le_of_eq HLE.out.symm) HLE.out HLL.out).mono ?_; rintro e w3 ⟨v, rfl, hr, hb⟩; have q1 := stepX p1 hb; have q2 := stepX p2 hb; clear p1 p2; have p1 := q1; have p2 := q2; clear q1 q2; have HR3 := Aside0.mk hr; have HB3 := Aside0.mk (Below.trans (Below.drew (Below.refl w.heap.size w)) hb); clear hr hb)))
  go_wp2
  go_ret
  exact ⟨_, rfl, HR3.out, HB3.out⟩
set_option maxHeartbeats 8000000 in
set_option maxRecDepth 100000 in
theorem len_calls {w : World} {g : Nat} {M : Option Nat} {a b c : Int} {A : Option Addr} {buf : List Int} {hh mv : Nat} (h : WinAt w g M a b c A buf hh mv) :
    Calls Try.prog 29 #[.pointer (some ⟨g, 0, none⟩)] w fun e w' => e = .returned (.int .i64 (hh : Int)) ∧ Below w.heap.size w w' := by
  have p2 : w.cell? ⟨g, 2, none⟩ = some (.int .i64 (hh : Int)) := (blk_cell h.win 2).trans rfl
  have hu48 := Try.underlying83
  go_enter Try.func29, Try.ntmps29
  go_wp2
  go_ret
  exact ⟨rfl, Below.refl _ _⟩
set_option maxHeartbeats 8000000 in
set_option maxRecDepth 100000 in
theorem clear_calls {w : World} {g : Nat} {M : Option Nat} {a b c : Int} {A : Option Addr} {buf : List Int} {hh mv : Nat} (h : WinAt w g M a b c A buf hh mv) (B : Nat) (hB : B ≤ g) :
    Calls Try.prog 36 #[.pointer (some ⟨g, 0, none⟩)] w fun e w' => e = .returned (.tuple #[]) ∧ WinAt w' g M a b c A buf 0 mv ∧ Kept w w' (fun k => k = g) ∧ Below B w w' := by
  have p2 : w.cell? ⟨g, 2, none⟩ = some (.int .i64 (hh : Int)) := (blk_cell h.win 2).trans rfl
  have f2 := blk_frozen h.win 2
  have HW := Aside0.mk h
  have hu48 := Try.underlying83
  clear h
  go_enter Try.func36, Try.ntmps36
  go_wp2
  refine bodyPost_end (results_none rfl _ _ _) rfl ?_
  refine ⟨rfl, ⟨blk_set HW.out.win 2 _, Nat.zero_le _, HW.out.no, fun hp => ?_, HW.out.ne, HW.out.met.far (p := ⟨g, 2, none⟩) HW.out.ne _⟩, ?_, ?_⟩
  · obtain ⟨gb, h1, h2, h3, h4⟩ := HW.out.row hp
    exact ⟨gb, h1, blk_far h2 (p := ⟨g, 2, none⟩) h3 _, h3, h4⟩
  · exact Kept.setCell (S := fun k => k = g) (p := ⟨g, 2, none⟩) (Kept.refl _ _) (Or.inl rfl) _
  · exact Below.setCell (p := ⟨g, 2, none⟩) (Below.refl _ _) hB _
theorem zero48 (W : World) : (zeroValue 83).run Try.prog W = .ok (.agg #[.pointer none, .slice none 0 0, .int .i64 0]) W := by
  have h : (Try.prog.info? 83).map (·.zero) = some (some (.agg #[.pointer none, .slice none 0 0, .int .i64 0])) := by kernel_rfl
  obtain ⟨i, hi, he⟩ := Option.map_eq_some_iff.mp h
  simp [zeroValue, typeInfo, hi, he, Sem.run_bind]
set_option maxHeartbeats 8000000 in
set_option maxRecDepth 100000 in
theorem window_new (M : Option Nat) (w : World) : Calls Try.prog 25 #[.pointer (mp M)] w fun e w' => e = .returned (.pointer (some ⟨w.heap.size, 0, none⟩)) ∧ w' = w.alloc (.cells #[.pointer (mp M), .slice none 0 0, .int .i64 0] 83) := by
  have hz := zero48
  have hu := Try.underlying83
  go_enter Try.func25, Try.ntmps25
  go_wp2
  go_ret
  exact ⟨rfl, rfl⟩
set_option maxHeartbeats 4000000 in
set_option maxRecDepth 100000 in
theorem clear_none (w : World) : Calls Try.prog 36 #[.pointer none] w fun e w' => e = .returned (.tuple #[]) ∧ Below w.heap.size w w' := by
  go_enter Try.func36, Try.ntmps36
  go_wp2
  refine bodyPost_end (results_none rfl _ _ _) rfl ?_
  exact ⟨rfl, Below.refl _ _⟩
set_option maxHeartbeats 4000000 in
set_option maxRecDepth 100000 in
theorem len_none (w : World) : Calls Try.prog 29 #[.pointer none] w fun e w' => e = .returned (.int .i64 0) ∧ Below w.heap.size w w' := by
  go_enter Try.func29, Try.ntmps29
  go_wp2
  go_ret
  exact ⟨rfl, Below.refl _ _⟩
set_option maxHeartbeats 4000000 in
set_option maxRecDepth 100000 in
theorem bytes_none (w : World) : Calls Try.prog 35 #[.pointer none] w fun e w' => e = .returned (.slice none 0 0) ∧ Below w.heap.size w w' := by
  go_enter Try.func35, Try.ntmps35
  go_wp2
  go_ret
  exact ⟨rfl, Below.refl _ _⟩
set_option maxHeartbeats 4000000 in
set_option maxRecDepth 100000 in
theorem add_none (Ab : Option Addr) (n cb : Nat) (w : World) : Calls Try.prog 30 #[.pointer none, .slice Ab n cb] w fun e w' => e = .returned (.tuple #[]) ∧ Below w.heap.size w w' := by
  go_enter Try.func30, Try.ntmps30
  go_wp2
  refine bodyPost_ret (results_none rfl _ _ _) rfl ?_
  exact ⟨rfl, Below.refl _ _⟩
set_option maxHeartbeats 4000000 in
set_option maxRecDepth 100000 in
theorem add_zero (g : Nat) (Ab : Option Addr) (cb : Nat) (w : World) : Calls Try.prog 30 #[.pointer (some ⟨g, 0, none⟩), .slice Ab 0 cb] w fun e w' => e = .returned (.tuple #[]) ∧ Below w.heap.size w w' := by
  go_enter Try.func30, Try.ntmps30
  go_wp2
  refine bodyPost_ret (results_none rfl _ _ _) rfl ?_
  exact ⟨rfl, Below.refl _ _⟩
end Go.Proofs.Ytgiaabgmnjaefaa.Win
