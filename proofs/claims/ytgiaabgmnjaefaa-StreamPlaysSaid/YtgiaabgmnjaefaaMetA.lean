/- A meter as memory: what New, count, Counts and Copy do, of any meter or none; copy as a step. -/
import Derived.Test.YtgiaabgmnjaefaaProg
import Derived.Test.YtgiaabgmnjaefaaWWords
import Derived.Test.YtgiaabgmnjaefaaWKept
import Derived.WalkKit
import Derived.KernelRfl
import Derived.Laws.CopyOwn
import Derived.Laws.Tables
import Derived.Deep.MidRow
import Derived.IntWalk
import Derived.WalkSpells
import Derived.Lib.LazyBuf
import Derived.Laws.Slices
import Derived.OwnWalk
import Derived.Laws.MakeOwn
import Derived.RowKit3
import Derived.WideLaws
import Derived.Test.YtgiaabgmnjaefaaWMore
import Derived.Test.YtgiaabgmnjaefaaWEqStruct
namespace Go.Proofs.Ytgiaabgmnjaefaa.Met
open Go Go.RowKit Go.Proofs Go.Proofs.YtgiaabgmnjaefaaW.PrintWords Go.Proofs.YtgiaabgmnjaefaaW.PrintMore
set_option linter.unusedVariables false
set_option linter.unusedSimpArgs false
theorem info5s : (Try.prog.info? 5).map (·.size) = some 1 := by kernel_rfl
/-- bytes as cells -/
def u8s (l : List Int) : Array Value := (l.map (Value.int .u8)).toArray
theorem u8s_size (l : List Int) : (u8s l).size = l.length := by simp [u8s]
theorem u8s_get (l : List Int) (j : Nat) : (u8s l)[j]? = (l[j]?).map (Value.int .u8) := by simp [u8s]
theorem u8s_splice (l : List Int) (off : Nat) (cs : List Int) : (splice (l.map (Value.int .u8)) off (cs.map (Value.int .u8))).toArray = u8s (splice l off cs) := by
  unfold u8s splice
  simp [List.map_take, List.map_drop]
/-- a pointer to a meter, or none -/
def mp (M : Option Nat) : Option Addr := M.map (fun g => ⟨g, 0, none⟩)
theorem mp_none : mp none = none := rfl
theorem mp_some (g : Nat) : mp (some g) = some ⟨g, 0, none⟩ := rfl
/-- what a meter holds -/
def MAt (w : World) (M : Option Nat) (a b c d : Int) : Prop := ∀ g, M = some g → w.heap[g]? = some (.cells #[.int .i64 a, .int .i64 b, .int .i64 c, .int .i64 d] 66 (0, 0))
theorem MAt.kept {w w' : World} {M : Option Nat} {a b c d : Int} {S : Nat → Prop} (h : MAt w M a b c d) (hk : Kept w w' S) (hS : ∀ g, M = some g → ¬ S g) : MAt w' M a b c d := fun g hg => blk_kept (h g hg) hk (hS g hg)
theorem MAt.below {w w' : World} {M : Option Nat} {a b c d : Int} (h : MAt w M a b c d) (hb : Below w.heap.size w w') : MAt w' M a b c d := fun g hg => blk_below (h g hg) hb
theorem MAt.far {w : World} {M : Option Nat} {a b c d : Int} (h : MAt w M a b c d) {p : Addr} (hne : M ≠ some p.block) (v : Value) : MAt (w.setCell p v) M a b c d := fun g hg => blk_far (h g hg) (p := p) (fun e => hne (by rw [hg, e])) v
theorem MAt.lt {w : World} {M : Option Nat} {a b c d : Int} (h : MAt w M a b c d) : ∀ g, M = some g → g < w.heap.size := fun g hg => blk_lt (h g hg)
/-- The call of copy, as a step: the row is spliced, all else stays. -/
theorem wpList_copy_kept {P : Program} {w : World} {ops : Array Oper} {rest : List Oper} {o : Oper} {a : Act} {Q : Exit → Act → World → Prop} (hgd : o.guard = none) (d s : Operand) (dT sT : TypeId)
    (ho : o.op = .call { callee := .builtin .copy, args := #[d, s], argTypes := #[dT, sT] }) (elem : TypeId) (hu : P.underlying dT = some (.slice elem)) (hsz : (P.info? elem).map (·.size) = some 1)
    (dp sp : Option Addr) (dLen dCap sLen sCap : Nat) (hd : a.eval d = .slice dp dLen dCap) (hs : a.eval s = .slice sp sLen sCap)
    (g off : Nat) (buf cs : List Int) (t : TypeId) (hg : w.heap[g]? = some (.cells (u8s buf) t (0, 0))) (hn : cs.length = Nat.min sLen dLen)
    (hpd : 0 < cs.length → dp = some ⟨g, off, none⟩) (hps : 0 < cs.length → ∃ ad, sp = some ad ∧ ∀ j x, cs[j]? = some x → w.cell? (ad.add j) = some (.int .u8 x))
    (hfit : off + cs.length ≤ buf.length) (B : Nat) (w0 : World) (hb : Below B w0 w) (hBg : B ≤ g)
    (h : ∀ w', w'.heap[g]? = some (.cells (u8s (splice buf off cs)) t (0, 0)) → Kept w w' (fun k => k = g) → Below B w0 w' → wpList P ops Q rest (a.put o.dst (.int .i64 (cs.length : Int))) w') :
    wpList P ops Q (o :: rest) a w := by
  by_cases h0 : cs.length = 0
  · obtain rfl : cs = [] := List.eq_nil_of_length_eq_zero h0
    refine wpList_copy_nothing hgd d s dT sT ho elem hu hsz dp sp dLen dCap sLen sCap hd hs (by simpa using hn.symm) ?_
    exact h w (by rw [hg]; simp [splice]) (Kept.refl _ _) hb
  · obtain rfl := hpd (by omega)
    obtain ⟨ad, rfl, hsrc⟩ := hps (by omega)
    refine wpList_copy_own hgd d s dT sT ho elem hu hsz g off dLen dCap ad sLen sCap hd hs (u8s buf) t hg (cs.map (Value.int .u8)) (by simpa using hn) (fun j v hv => ?_) (by simpa [u8s_size] using hfit) (by simp [Value.oneCell']) ?_
    · rw [List.getElem?_map] at hv
      cases hx : cs[j]? with
      | none => rw [hx] at hv; cases hv
      | some x => rw [hx] at hv; cases hv; exact hsrc j x hx
    · have e : ((u8s buf).toList.take off ++ (cs.map (Value.int .u8) ++ (u8s buf).toList.drop (off + (cs.map (Value.int .u8)).length))).toArray = u8s (splice buf off cs) := u8s_splice buf off cs
      rw [e]
      have hl : (goInt ((cs.map (Value.int .u8)).length : Nat)) = .int .i64 (cs.length : Int) := by rw [List.length_map]; rfl
      rw [hl]
      exact h _ (setRow_heap w g _ _ t _ hg) ⟨by simp [World.setRow], fun i hi hne => setRow_other w g i _ hne⟩ (below_setRow hb hBg _)
theorem zeroC (W : World) : (zeroValue 44).run Try.prog W = .ok (.agg #[.int .i64 0, .int .i64 0, .int .i64 0, .int .i64 0]) W := by
  have h : (Try.prog.info? 44).map (·.zero) = some (some (.agg #[.int .i64 0, .int .i64 0, .int .i64 0, .int .i64 0])) := by kernel_rfl
  obtain ⟨i, hi, he⟩ := Option.map_eq_some_iff.mp h
  simp [zeroValue, typeInfo, hi, he, Sem.run_bind]
theorem zeroM (W : World) : (zeroValue 66).run Try.prog W = .ok (.agg #[.int .i64 0, .int .i64 0, .int .i64 0, .int .i64 0]) W := by
  have h : (Try.prog.info? 66).map (·.zero) = some (some (.agg #[.int .i64 0, .int .i64 0, .int .i64 0, .int .i64 0])) := by kernel_rfl
  obtain ⟨i, hi, he⟩ := Option.map_eq_some_iff.mp h
  simp [zeroValue, typeInfo, hi, he, Sem.run_bind]
set_option maxHeartbeats 4000000 in
set_option maxRecDepth 100000 in
/-- where a meter counts -/
theorem count_some (g : Nat) (w : World) : Calls Try.prog 37 #[.pointer (some ⟨g, 0, none⟩)] w fun e w' => e = .returned (.pointer (some ⟨g, 0, none⟩)) ∧ Below w.heap.size w w' := by
  have hu := Try.underlying66
  go_enter Try.func37, Try.ntmps37
  go_wp2
  go_ret
  exact ⟨rfl, Below.refl _ _⟩
set_option maxHeartbeats 4000000 in
set_option maxRecDepth 100000 in
theorem count_none (w : World) : Calls Try.prog 37 #[.pointer none] w fun e w' => ∃ g, e = .returned (.pointer (some ⟨g, 0, none⟩)) ∧ w.heap.size ≤ g ∧ w'.heap[g]? = some (.cells #[.int .i64 0, .int .i64 0, .int .i64 0, .int .i64 0] 44 (0, 0)) ∧ Below w.heap.size w w' := by
  have hu := Try.underlying44
  have hz := zeroC
  go_enter Try.func37, Try.ntmps37
  go_wp2
  go_ret
  exact ⟨_, rfl, Nat.le_refl _, blk_new w _, below_alloc (Below.refl _ _) _⟩
/-- where a meter, or none, counts: a block of four numbers -/
structure Cnt (w w' : World) (M : Option Nat) (a b c d : Int) (g : Nat) (T : TypeId) (x : Array Value) : Prop where
  blk : w'.heap[g]? = some (.cells x T (0, 0))
  met : MAt w' M a b c d
  here : ∀ k, M = some k → k = g ∧ x = #[.int .i64 a, .int .i64 b, .int .i64 c, .int .i64 d] ∧ T = 66
  new : M = none → w.heap.size ≤ g ∧ x = #[.int .i64 0, .int .i64 0, .int .i64 0, .int .i64 0]
  bel : Below w.heap.size w w'
theorem count_any (M : Option Nat) (a b c d : Int) (w : World) (hM : MAt w M a b c d) : Calls Try.prog 37 #[.pointer (mp M)] w fun e w' => ∃ g T x, e = .returned (.pointer (some ⟨g, 0, none⟩)) ∧ Cnt w w' M a b c d g T x := by
  cases M with
  | none =>
    refine (count_none w).mono ?_
    rintro e w' ⟨g, rfl, h1, h2, h3⟩
    exact ⟨g, _, _, rfl, h2, (fun _ h => by cases h), (fun _ h => by cases h), fun _ => ⟨h1, rfl⟩, h3⟩
  | some g =>
    refine (count_some g w).mono ?_
    rintro e w' ⟨rfl, hb⟩
    exact ⟨g, _, _, rfl, blk_below (hM g rfl) hb, hM.below hb, (fun k hk => by cases hk; exact ⟨rfl, rfl, rfl⟩), (fun h => by cases h), hb⟩
/-- one number of a meter's, or of what is thrown away -/
theorem Cnt.at_ {w w' : World} {M : Option Nat} {a b c d : Int} {g : Nat} {T : TypeId} {x : Array Value} (h : Cnt w w' M a b c d g T x) (j : Nat) (hj : j < 4) :
    ∃ v : Int, x[j]? = some (.int .i64 v) ∧ w'.cell? ⟨g, j, none⟩ = some (.int .i64 v) ∧ (M = none → v = 0) ∧ (M ≠ none → #[a, b, c, d][j]? = some v) := by
  cases M with
  | none =>
    obtain ⟨_, hx⟩ := h.new rfl
    have h0 : x[j]? = some (.int .i64 0) := by
      rw [hx]
      match j, hj with
      | 0, _ => rfl
      | 1, _ => rfl
      | 2, _ => rfl
      | 3, _ => rfl
    exact ⟨0, h0, (blk_cell h.blk j).trans h0, fun _ => rfl, fun e => absurd rfl e⟩
  | some k =>
    obtain ⟨_, hx, _⟩ := h.here k rfl
    have h0 : ∃ v, x[j]? = some (.int .i64 v) ∧ #[a, b, c, d][j]? = some v := by
      rw [hx]
      match j, hj with
      | 0, _ => exact ⟨_, rfl, rfl⟩
      | 1, _ => exact ⟨_, rfl, rfl⟩
      | 2, _ => exact ⟨_, rfl, rfl⟩
      | 3, _ => exact ⟨_, rfl, rfl⟩
    obtain ⟨v, h1, h2⟩ := h0
    exact ⟨v, h1, (blk_cell h.blk j).trans h1, (fun e => by cases e), fun _ => h2⟩
/-- what comes of a count that is put back -/
structure Put (w w2 : World) (M : Option Nat) (a b c d : Int) : Prop where
  met : MAt w2 M a b c d
  kept : Kept w w2 (fun k => M = some k)
  bel : ∀ B, B ≤ w.heap.size → (∀ k, M = some k → B ≤ k) → Below B w w2
theorem Cnt.put {w w' : World} {M : Option Nat} {a b c d : Int} {g : Nat} {T : TypeId} {x : Array Value} (h : Cnt w w' M a b c d g T x) (j : Nat) (v a' b' c' d' : Int)
    (hv : M ≠ none → #[Value.int .i64 a, .int .i64 b, .int .i64 c, .int .i64 d].setIfInBounds j (.int .i64 v) = #[.int .i64 a', .int .i64 b', .int .i64 c', .int .i64 d']) : Put w (w'.setCell ⟨g, j, none⟩ (.int .i64 v)) M a' b' c' d' := by
  refine ⟨fun k hk => ?_, ?_, fun B hB hBM => ?_⟩
  · obtain ⟨rfl, hx, rfl⟩ := h.here k hk
    have := blk_set h.blk j (.int .i64 v)
    rw [hx, hv (by rw [hk]; simp)] at this
    exact this
  · refine Kept.setCell (p := ⟨g, j, none⟩) ((Kept.refl w _).below h.bel) ?_ _
    cases M with
    | none => exact Or.inr (h.new rfl).1
    | some k => exact Or.inl (by obtain ⟨rfl, _⟩ := h.here k rfl; rfl)
  · refine Below.setCell (p := ⟨g, j, none⟩) (h.bel.mono hB) ?_ _
    cases M with
    | none => exact Nat.le_trans hB (h.new rfl).1
    | some k => obtain ⟨rfl, _⟩ := h.here k rfl; exact hBM _ rfl
set_option maxHeartbeats 8000000 in
set_option maxRecDepth 100000 in
theorem meter_new (w : World) : Calls Try.prog 12 #[] w fun e w' => e = .returned (.pointer (some ⟨w.heap.size, 0, none⟩)) ∧ w' = w.alloc (.cells #[.int .i64 0, .int .i64 0, .int .i64 0, .int .i64 0] 66) := by
  have hz := zeroM
  have hu := Try.underlying66
  go_enter Try.func12, Try.ntmps12
  go_wp2
  go_ret
  exact ⟨rfl, rfl⟩
set_option maxHeartbeats 8000000 in
set_option maxRecDepth 100000 in
theorem counts_some (g : Nat) (a b c d : Int) (w : World) (h : w.heap[g]? = some (.cells #[.int .i64 a, .int .i64 b, .int .i64 c, .int .i64 d] 66 (0, 0))) :
    Calls Try.prog 19 #[.pointer (some ⟨g, 0, none⟩)] w fun e w' => e = .returned (.agg #[.int .i64 a, .int .i64 b, .int .i64 c, .int .i64 d]) ∧ Below w.heap.size w w' := by
  have k0 : w.cell? ⟨g, 0, none⟩ = some (.int .i64 a) := (blk_cell h 0).trans rfl
  have k1 : w.cell? ⟨g, 1, none⟩ = some (.int .i64 b) := (blk_cell h 1).trans rfl
  have k2 : w.cell? ⟨g, 2, none⟩ = some (.int .i64 c) := (blk_cell h 2).trans rfl
  have k3 : w.cell? ⟨g, 3, none⟩ = some (.int .i64 d) := (blk_cell h 3).trans rfl
  have hlt := blk_lt h
  have hz := zeroC
  have hu := Try.underlying66
  have hu4 := Try.underlying44
  have HB := Aside0.mk (below_alloc (Below.refl w.heap.size w) (.cells #[.int .i64 0, .int .i64 0, .int .i64 0, .int .i64 0] 44))
  have HI := Aside0.mk (show (Try.prog.info? 44).map (·.size) = some 4 by kernel_rfl)
  go_enter Try.func19, Try.ntmps19
  go_wp2
  refine bodyPost_ret (results_single rfl (Vals.cell w.heap.size 44 #[.int .i64 a, .int .i64 b, .int .i64 c, .int .i64 d] (0, 0) _ rfl (blk_new w _) Try.underlying44 rfl HI.out Vals.nil)) rfl ?_
  exact ⟨rfl, below_alloc (Below.refl _ _) _⟩
set_option maxHeartbeats 8000000 in
set_option maxRecDepth 100000 in
theorem counts_none (w : World) :
    Calls Try.prog 19 #[.pointer none] w fun e w' => e = .returned (.agg #[.int .i64 0, .int .i64 0, .int .i64 0, .int .i64 0]) ∧ Below w.heap.size w w' := by
  have hz := zeroC
  have hu4 := Try.underlying44
  have HI := Aside0.mk (show (Try.prog.info? 44).map (·.size) = some 4 by kernel_rfl)
  go_enter Try.func19, Try.ntmps19
  go_wp2
  refine bodyPost_ret (results_single rfl (Vals.cell w.heap.size 44 #[.int .i64 0, .int .i64 0, .int .i64 0, .int .i64 0] (0, 0) _ rfl (blk_new w _) Try.underlying44 rfl HI.out Vals.nil)) rfl ?_
  exact ⟨rfl, below_alloc (Below.refl _ _) _⟩
theorem counts_any (g : Nat) (a b c d : Int) (w : World) (h : MAt w (some g) a b c d) :
    Calls Try.prog 19 #[.pointer (some ⟨g, 0, none⟩)] w fun e w' => e = .returned (.agg #[.int .i64 a, .int .i64 b, .int .i64 c, .int .i64 d]) ∧ Below w.heap.size w w' := counts_some g a b c d w (h g rfl)
theorem fieldC (a b c d : Int) (W : World) : (Instr.field 44 (.agg #[.int .i64 a, .int .i64 b, .int .i64 c, .int .i64 d]) 0).run Try.prog W = .ok (.int .i64 a) W ∧ (Instr.field 44 (.agg #[.int .i64 a, .int .i64 b, .int .i64 c, .int .i64 d]) 1).run Try.prog W = .ok (.int .i64 b) W ∧ (Instr.field 44 (.agg #[.int .i64 a, .int .i64 b, .int .i64 c, .int .i64 d]) 2).run Try.prog W = .ok (.int .i64 c) W ∧ (Instr.field 44 (.agg #[.int .i64 a, .int .i64 b, .int .i64 c, .int .i64 d]) 3).run Try.prog W = .ok (.int .i64 d) W := by
  refine ⟨?_, ?_, ?_, ?_⟩ <;> simp [Instr.field, Sem.run_bind, run_underlying (P := Try.prog) Try.underlying44, run_underlying (P := Try.prog) Try.underlying3, part, isAgg, asAgg]
theorem eqI (d : Nat) (x y : Int) (W : World) : (Op.equalIn (d + 1) 3 (.int .i64 x) (.int .i64 y)).run Try.prog W = .ok (x == y) W := by
  have hu := Try.underlying3
  go_simp
/-- two counts are the same -/
theorem eqC (d : Nat) (a b c e a' b' c' e' : Int) (W : World) : (Op.equalIn (d + 2) 44 (.agg #[.int .i64 a, .int .i64 b, .int .i64 c, .int .i64 e]) (.agg #[.int .i64 a', .int .i64 b', .int .i64 c', .int .i64 e'])).run Try.prog W = .ok (a == a' && (b == b' && (c == c' && e == e'))) W := by
  refine eqA_of Try.underlying44 (by kernel_rfl) ?_
  have hp : ∀ (x y z u : Int) (W : World), (part 3 #[.int .i64 x, .int .i64 y, .int .i64 z, .int .i64 u] 0).run Try.prog W = .ok (.int .i64 x) W ∧ (part 3 #[.int .i64 x, .int .i64 y, .int .i64 z, .int .i64 u] 1).run Try.prog W = .ok (.int .i64 y) W ∧ (part 3 #[.int .i64 x, .int .i64 y, .int .i64 z, .int .i64 u] 2).run Try.prog W = .ok (.int .i64 z) W ∧ (part 3 #[.int .i64 x, .int .i64 y, .int .i64 z, .int .i64 u] 3).run Try.prog W = .ok (.int .i64 u) W := by
    intro x y z u W
    refine ⟨?_, ?_, ?_, ?_⟩ <;> simp [part, Sem.run_bind, run_underlying (P := Try.prog) Try.underlying3]
  refine eqf_cons (by rfl) (hp _ _ _ _ W).1 (hp _ _ _ _ W).1 (eqI d _ _ W) ?_
  refine eqf_cons (by rfl) (hp _ _ _ _ W).2.1 (hp _ _ _ _ W).2.1 (eqI d _ _ W) ?_
  refine eqf_cons (by rfl) (hp _ _ _ _ W).2.2.1 (hp _ _ _ _ W).2.2.1 (eqI d _ _ W) ?_
  exact eqf_last (by rfl) (hp _ _ _ _ W).2.2.2 (hp _ _ _ _ W).2.2.2 (eqI d _ _ W)
end Go.Proofs.Ytgiaabgmnjaefaa.Met
