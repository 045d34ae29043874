/- A stream as memory: what New, line and Err do. -/
import Derived.Test.YtgiaabgmnjaefaaWinF
namespace Go.Proofs.Ytgiaabgmnjaefaa.Str
open Go Go.RowKit Go.Proofs Go.Proofs.Ytgiaabgmnjaefaa.Met Go.Proofs.Ytgiaabgmnjaefaa.Win Go.Proofs.YtgiaabgmnjaefaaW.PrintWords Go.Proofs.YtgiaabgmnjaefaaW.PrintMore
set_option linter.unusedVariables false
set_option linter.unusedSimpArgs false
attribute [local go_sem] max2_int min2_int max_two min_two max_three min_three
/-- a stream: its window, how long a line may be, how many lines ended, how many bytes these have with their newlines, how many were read, whether it is over, what is wrong -/
structure SS where
  st : St
  most : Int
  num : Nat
  off : Nat
  hunt : Nat
  over : Bool
  bad : Int
structure StrAt (w : World) (B gs gw : Nat) (M : Option Nat) (A : Option Addr) (s : SS) : Prop where
  box : w.heap[gs]? = some (.cells #[.pointer (mp M), .pointer (some ⟨gw, 0, none⟩), .int .i64 s.most, .int .i64 (s.num : Int), .int .i64 (s.off : Int), .bool s.over, .int .i64 s.bad] 70 (0, 0))
  win : Win w gw M (s.hunt : Int) A s.st
  ne : gs ≠ gw ∧ M ≠ some gs ∧ ∀ ad, A = some ad → ad.block ≠ gs
  low : B ≤ gs ∧ B ≤ gw ∧ (∀ k, M = some k → B ≤ k) ∧ ∀ ad, A = some ad → B ≤ ad.block
/-- what a stream's calls may write -/
def Foot (gs gw : Nat) (M : Option Nat) (A : Option Addr) (k : Nat) : Prop := k = gs ∨ k = gw ∨ M = some k ∨ ∃ ad, A = some ad ∧ ad.block = k
theorem StrAt.kept {w w' : World} {B gs gw : Nat} {M : Option Nat} {A : Option Addr} {s : SS} {S : Nat → Prop} (h : StrAt w B gs gw M A s) (hk : Kept w w' S) (hS : ∀ k, Foot gs gw M A k → ¬ S k) : StrAt w' B gs gw M A s :=
  ⟨blk_kept h.box hk (hS _ (Or.inl rfl)), h.win.kept hk (hS _ (Or.inr (Or.inl rfl))) (fun k hk => hS _ (Or.inr (Or.inr (Or.inl hk)))) (fun ad e => hS _ (Or.inr (Or.inr (Or.inr ⟨ad, e, rfl⟩)))), h.ne, h.low⟩
theorem StrAt.below {w w' : World} {B gs gw : Nat} {M : Option Nat} {A : Option Addr} {s : SS} (h : StrAt w B gs gw M A s) (hb : Below w.heap.size w w') : StrAt w' B gs gw M A s := h.kept (Kept.of_below hb (fun _ => False)) (fun _ _ h => h)
theorem StrAt.lt {w : World} {B gs gw : Nat} {M : Option Nat} {A : Option Addr} {s : SS} (h : StrAt w B gs gw M A s) : gs < w.heap.size ∧ gw < w.heap.size := ⟨blk_lt h.box, h.win.lt⟩
theorem zeroLine (W : World) : (zeroValue 47).run Try.prog W = .ok (.agg #[.int .i64 0, .int .i64 0, .slice none 0 0]) W := by
  have h : (Try.prog.info? 47).map (·.zero) = some (some (.agg #[.int .i64 0, .int .i64 0, .slice none 0 0])) := by kernel_rfl
  obtain ⟨i, hi, he⟩ := Option.map_eq_some_iff.mp h
  simp [zeroValue, typeInfo, hi, he, Sem.run_bind]
theorem zeroStr (W : World) : (zeroValue 70).run Try.prog W = .ok (.agg #[.pointer none, .pointer none, .int .i64 0, .int .i64 0, .int .i64 0, .bool false, .int .i64 0]) W := by
  have h : (Try.prog.info? 70).map (·.zero) = some (some (.agg #[.pointer none, .pointer none, .int .i64 0, .int .i64 0, .int .i64 0, .bool false, .int .i64 0])) := by kernel_rfl
  obtain ⟨i, hi, he⟩ := Option.map_eq_some_iff.mp h
  simp [zeroValue, typeInfo, hi, he, Sem.run_bind]
/-- a new stream -/
def newSS (most : Int) (c : Nat) : SS := ⟨newS, if most < 0 then 0 else most, 0, 0, c, false, 0⟩
set_option maxHeartbeats 8000000 in
set_option maxRecDepth 100000 in
theorem stream_new (M : Option Nat) (most : Int) (c : Nat) (w : World) (B : Nat) (hB : B ≤ w.heap.size) (hBM : ∀ k, M = some k → B ≤ k) (hM : MAt w M 0 0 (c : Int) 0) :
    Calls Try.prog 13 #[.pointer (mp M), .int .i64 most] w fun e w' => ∃ gs gw, e = .returned (.pointer (some ⟨gs, 0, none⟩)) ∧ StrAt w' B gs gw M none (newSS most c) ∧ Below w.heap.size w w' ∧ w.heap.size ≤ gs ∧ w.heap.size ≤ gw := by
  have HM := Aside0.mk hM
  have HB := Aside0.mk hB
  have HBM := Aside0.mk hBM
  have hz := zeroStr
  have hu := Try.underlying70
  clear hM hB hBM
  go_enter Try.func13, Try.ntmps13
  go_wp2_with fail
  refine (window_new M w).mono ?_
  rintro e w1 ⟨rfl, rfl⟩
  have HW := Aside0.mk (win_new HM.out)
  have HB1 := Aside0.mk (below_alloc (Below.refl w.heap.size w) (.cells #[.pointer (mp M), .slice none 0 0, .int .i64 0] 83))
  have HS1 := Aside0.mk (show (w.alloc (.cells #[.pointer (mp M), .slice none 0 0, .int .i64 0] 83)).heap.size = w.heap.size + 1 by rw [World.size_alloc])
  have HML := Aside0.mk (HM.out.lt)
  have hmx : (if most < 0 then (0 : Int) else most) = (newSS most c).most := rfl
  generalize hx : (newSS most c).most = mo at hmx
  have HX := Aside0.mk hx
  clear hx
  go_wp2
  go_ret
  generalize (w.alloc (.cells #[.pointer (mp M), .slice none 0 0, .int .i64 0] 83)) = w1 at HW HB1 HS1 ⊢
  have hb2 := below_alloc (Below.refl w1.heap.size w1) (.cells #[.pointer (mp M), .pointer (some ⟨w.heap.size, 0, none⟩), .int .i64 mo, .int .i64 0, .int .i64 0, .bool false, .int .i64 0] 70)
  have hn := blk_new w1 (.cells #[.pointer (mp M), .pointer (some ⟨w.heap.size, 0, none⟩), .int .i64 mo, .int .i64 0, .int .i64 0, .bool false, .int .i64 0] 70)
  have hs := HS1.out
  have hB := HB.out
  refine ⟨w.heap.size + 1, w.heap.size, rfl, ⟨?_, HW.out.below hb2, ⟨by omega, fun e => by have := HML.out _ e; omega, fun ad e => by cases e⟩, ⟨by omega, by omega, HBM.out, fun ad e => by cases e⟩⟩, below_step HB1.out hb2, by omega, Nat.le_refl _⟩
  rw [hs] at hn
  rw [HX.out]
  exact hn
set_option maxHeartbeats 8000000 in
set_option maxRecDepth 100000 in
theorem err_some {w : World} {B gs gw : Nat} {M : Option Nat} {A : Option Addr} {s : SS} (h : StrAt w B gs gw M A s) :
    Calls Try.prog 20 #[.pointer (some ⟨gs, 0, none⟩)] w fun e w' => e = .returned (.tuple #[.int .i64 s.bad, .int .i64 (if s.bad = 0 then 0 else (s.num : Int))]) ∧ Below w.heap.size w w' := by
  have k3 : w.cell? ⟨gs, 3, none⟩ = some (.int .i64 (s.num : Int)) := (blk_cell h.box 3).trans rfl
  have k6 : w.cell? ⟨gs, 6, none⟩ = some (.int .i64 s.bad) := (blk_cell h.box 6).trans rfl
  have hu := Try.underlying70
  have hue := Try.underlying31
  clear h
  by_cases hb : s.bad = 0
  · rw [if_pos hb]
    rw [hb] at k6 ⊢
    clear hb
    go_enter Try.func20, Try.ntmps20
    go_wp2
    go_ret2
    exact ⟨rfl, Below.refl _ _⟩
  · have c0 : (s.bad == 0) = false := beq_eq_false_iff_ne.mpr hb
    rw [if_neg hb]
    generalize s.bad = bad at k6 c0 ⊢
    clear hb
    go_enter Try.func20, Try.ntmps20
    go_wp2
    go_quiet (fail)
    go_wp2
    go_ret2
    exact ⟨rfl, pw_below_drewN (Below.refl _ _) _⟩
set_option maxHeartbeats 8000000 in
set_option maxRecDepth 100000 in
theorem err_none (w : World) :
    Calls Try.prog 20 #[.pointer none] w fun e w' => e = .returned (.tuple #[.int .i64 0, .int .i64 0]) ∧ Below w.heap.size w w' := by
  go_enter Try.func20, Try.ntmps20
  go_wp2
  go_ret2
  exact ⟨rfl, Below.refl _ _⟩
end Go.Proofs.Ytgiaabgmnjaefaa.Str
