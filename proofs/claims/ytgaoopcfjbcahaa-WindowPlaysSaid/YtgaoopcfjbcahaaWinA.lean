/- A meter and a window as memory: what Copy, count, New and Counts do, of any meter or none; a buffer of the window's own. -/
import Derived.Test.YtgaoopcfjbcahaaProg
import Derived.Test.YtgaoopcfjbcahaaWWords
import Derived.Test.YtgaoopcfjbcahaaWKept
import Derived.WalkKit
import Derived.KernelRfl
import Derived.Laws.CopyOwn
import Derived.Laws.Tables
import Derived.Deep.MidRow
import Derived.IntWalk
namespace Go.Proofs.Ytgaoopcfjbcahaa.Win
open Go Go.RowKit Go.Proofs Go.Proofs.YtgaoopcfjbcahaaW.PrintWords
set_option linter.unusedVariables false
set_option linter.unusedSimpArgs false
theorem info5s : (Try.prog.info? 5).map (·.size) = some 1 := by kernel_rfl
/-- bytes as cells -/
def u8s (l : List Int) : Array Value := (l.map (Value.int .u8)).toArray
theorem u8s_size (l : List Int) : (u8s l).size = l.length := by simp [u8s]
theorem u8s_get (l : List Int) (j : Nat) : (u8s l)[j]? = (l[j]?).map (Value.int .u8) := by simp [u8s]
theorem u8s_splice (l : List Int) (off : Nat) (cs : List Int) : (splice (l.map (Value.int .u8)) off (cs.map (Value.int .u8))).toArray = u8s (splice l off cs) := by
  unfold u8s splice
  simp [List.map_take, List.map_drop]
/-- a pointer to a meter, or none -/
def mp (M : Option Nat) : Option Addr := M.map (fun g => ⟨g, 0, none⟩)
theorem mp_none : mp none = none := rfl
theorem mp_some (g : Nat) : mp (some g) = some ⟨g, 0, none⟩ := rfl
/-- what a meter holds -/
def MAt (w : World) (M : Option Nat) (a b c d : Int) : Prop := ∀ g, M = some g → w.heap[g]? = some (.cells #[.int .i64 a, .int .i64 b, .int .i64 c, .int .i64 d] 46 (0, 0))
theorem MAt.kept {w w' : World} {M : Option Nat} {a b c d : Int} {S : Nat → Prop} (h : MAt w M a b c d) (hk : Kept w w' S) (hS : ∀ g, M = some g → ¬ S g) : MAt w' M a b c d := fun g hg => blk_kept (h g hg) hk (hS g hg)
theorem MAt.below {w w' : World} {M : Option Nat} {a b c d : Int} (h : MAt w M a b c d) (hb : Below w.heap.size w w') : MAt w' M a b c d := fun g hg => blk_below (h g hg) hb
/-- The call of copy, as a step: the row is spliced, all else stays. -/
theorem wpList_copy_kept {P : Program} {w : World} {ops : Array Oper} {rest : List Oper} {o : Oper} {a : Act} {Q : Exit → Act → World → Prop} (hgd : o.guard = none) (d s : Operand) (dT sT : TypeId)
    (ho : o.op = .call { callee := .builtin .copy, args := #[d, s], argTypes := #[dT, sT] }) (elem : TypeId) (hu : P.underlying dT = some (.slice elem)) (hsz : (P.info? elem).map (·.size) = some 1)
    (dp sp : Option Addr) (dLen dCap sLen sCap : Nat) (hd : a.eval d = .slice dp dLen dCap) (hs : a.eval s = .slice sp sLen sCap)
    (g off : Nat) (buf cs : List Int) (t : TypeId) (hg : w.heap[g]? = some (.cells (u8s buf) t (0, 0))) (hn : cs.length = Nat.min sLen dLen)
    (hpd : 0 < cs.length → dp = some ⟨g, off, none⟩) (hps : 0 < cs.length → ∃ ad, sp = some ad ∧ ∀ j x, cs[j]? = some x → w.cell? (ad.add j) = some (.int .u8 x))
    (hfit : off + cs.length ≤ buf.length) (B : Nat) (w0 : World) (hb : Below B w0 w) (hBg : B ≤ g)
    (h : ∀ w', w'.heap[g]? = some (.cells (u8s (splice buf off cs)) t (0, 0)) → Kept w w' (fun k => k = g) → Below B w0 w' → wpList P ops Q rest (a.put o.dst (.int .i64 (cs.length : Int))) w') :
    wpList P ops Q (o :: rest) a w := by
  by_cases h0 : cs.length = 0
  · obtain rfl : cs = [] := List.eq_nil_of_length_eq_zero h0
    refine wpList_copy_nothing hgd d s dT sT ho elem hu hsz dp sp dLen dCap sLen sCap hd hs (by simpa using hn.symm) ?_
    exact h w (by rw [hg]; simp [splice]) (Kept.refl _ _) hb
  · obtain rfl := hpd (by omega)
    obtain ⟨ad, rfl, hsrc⟩ := hps (by omega)
    refine wpList_copy_own hgd d s dT sT ho elem hu hsz g off dLen dCap ad sLen sCap hd hs (u8s buf) t hg (cs.map (Value.int .u8)) (by simpa using hn) (fun j v hv => ?_) (by simpa [u8s_size] using hfit) (by simp [Value.oneCell']) ?_
    · rw [List.getElem?_map] at hv
      cases hx : cs[j]? with
      | none => rw [hx] at hv; cases hv
      | some x => rw [hx] at hv; cases hv; exact hsrc j x hx
    · have e : ((u8s buf).toList.take off ++ (cs.map (Value.int .u8) ++ (u8s buf).toList.drop (off + (cs.map (Value.int .u8)).length))).toArray = u8s (splice buf off cs) := u8s_splice buf off cs
      rw [e]
      have hl : (goInt ((cs.map (Value.int .u8)).length : Nat)) = .int .i64 (cs.length : Int) := by rw [List.length_map]; rfl
      rw [hl]
      exact h _ (setRow_heap w g _ _ t _ hg) ⟨by simp [World.setRow], fun i hi hne => setRow_other w g i _ hne⟩ (below_setRow hb hBg _)
theorem zero40 (W : World) : (zeroValue 40).run Try.prog W = .ok (.agg #[.int .i64 0, .int .i64 0, .int .i64 0, .int .i64 0]) W := by
  have h : (Try.prog.info? 40).map (·.zero) = some (some (.agg #[.int .i64 0, .int .i64 0, .int .i64 0, .int .i64 0])) := by kernel_rfl
  obtain ⟨i, hi, he⟩ := Option.map_eq_some_iff.mp h
  simp [zeroValue, typeInfo, hi, he, Sem.run_bind]
set_option maxHeartbeats 4000000 in
set_option maxRecDepth 100000 in
/-- where a meter counts -/
theorem count_calls (g : Nat) (w : World) : Calls Try.prog 22 #[.pointer (some ⟨g, 0, none⟩)] w fun e w' => e = .returned (.pointer (some ⟨g, 0, none⟩)) ∧ Below w.heap.size w w' := by
  have hu := Try.underlying46
  go_enter Try.func22, Try.ntmps22
  go_wp2
  go_ret
  exact ⟨rfl, Below.refl _ _⟩
set_option maxHeartbeats 4000000 in
set_option maxRecDepth 100000 in
theorem count_none (w : World) : Calls Try.prog 22 #[.pointer none] w fun e w' => ∃ g, e = .returned (.pointer (some ⟨g, 0, none⟩)) ∧ w.heap.size ≤ g ∧ w'.heap[g]? = some (.cells #[.int .i64 0, .int .i64 0, .int .i64 0, .int .i64 0] 40 (0, 0)) ∧ Below w.heap.size w w' := by
  have hu := Try.underlying40
  have hz := zero40
  go_enter Try.func22, Try.ntmps22
  go_wp2
  go_ret
  exact ⟨_, rfl, Nat.le_refl _, blk_new w _, below_alloc (Below.refl _ _) _⟩
end Go.Proofs.Ytgaoopcfjbcahaa.Win
