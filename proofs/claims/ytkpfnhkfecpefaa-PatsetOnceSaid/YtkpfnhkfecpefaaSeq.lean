/- A range over a function whose iterator tells what lies in memory of what it hands out. For every program; no condition. -/
import Derived.Test.YtkpfnhkfecpefaaWWords
import Derived.Test.YtkpfnhkfecpefaaWApart
import Derived.RangeFuncNested
import Derived.RangeFuncCalls
import Derived.RangeFuncLeaves
import Derived.Shelf.Abstract
import Derived.WalkKit
import Derived.OwnWalkIn
import Derived.TacticsInMore
import Derived.LoopNIn
import Derived.LoopIn
import Derived.Maps.AppendAt
namespace Go.Proofs.Ytkpfnhkfecpefaa.Seq
open Go Go.RowKit Go.Proofs.YtkpfnhkfecpefaaW.PrintWords
variable {F : Fence} {n : Nat} {P : Program}

/-- Whatever turns none of the blocks that lie leaves it. -/
def Abide {β : Type} (J : β → World → Prop) : Prop := ∀ s A B, J s A → Below A.heap.size A B → J s B
/-- The turn of a block from B on that is no cells leaves it. -/
def Turns {β : Type} (B : Nat) (J : β → World → Prop) : Prop := ∀ s (A : World) (l : Nat) (o o' : Obj), J s A → B ≤ l → A.heap[l]? = some o → o.isCells = false → J s (A.putObj l o')

/-- An iterator's contract: what it hands out, one by one; G: what is known of it in memory; T: what it must find in memory. -/
def Told {α : Type} (F : Fence) (n : Nat) (P : Program) (g : Nat) (lb : Array Value) (encs : α → Array Value) (G : Nat → α → World → Prop) (T : World → Prop) (S Sp : List α → Prop) (N : Nat) (w : World) : Prop :=
  ∀ (l : Nat) (J Jx : List α → World → Prop) (W : World), Below w.heap.size w W → Abide J → (∀ s A, J s A → T A) →
    (∀ pre x W0 W1, J pre W0 → Below W0.heap.size W0 W1 → G W0.heap.size x W1 → pre.length < N → YieldAt F (n - 1) P l (encs x) W1 fun e W' =>
      (e = .returned (.bool true) ∧ J (pre ++ [x]) W') ∨ (e = .returned (.bool false) ∧ Jx (pre ++ [x]) W')) →
    J [] W →
    CallsIn F n P g (#[.func (.yield l) #[] #[]] ++ lb) W fun e W' => (∃ v, e = .returned v) ∧ ((∃ xs, S xs ∧ J xs W') ∨ (∃ pre, Sp pre ∧ Jx pre W'))

/-- How a round's body may be left. -/
def roundEnd {α : Type} (I : List α → World → Prop) (Ix : Code → List α → World → Prop) (xs : List α) (W : World) : Exit → Act → World → Prop
  | .normal, _, W' => KeepsOthers W W' ∧ I xs W'
  | .ret, _, W' => KeepsOthers W W' ∧ Ix .ret xs W'
  | .exit id, _, W' => KeepsOthers W W' ∧ Ix (.exit id) xs W'
  | .goto t, _, W' => KeepsOthers W W' ∧ Ix (.goto t) xs W'
  | .panic _, _, _ => False
  | .outgrown, _, _ => False

theorem below_alloc2 (w : World) (o o' : Obj) : Below w.heap.size w ((w.alloc o).alloc o') := ((Below.refl _ w).alloc (Nat.le_refl _) o).alloc (by simp) o'

/-- The statement 'for x := range g', over such a contract. -/
theorem wpIn_told {α : Type} {g : Operand} {ps : Array Tmp} {assign body : Code} {Q : Exit → Act → World → Prop} {a : Act} {w : World}
    (hro : F.round = none) (h1 : 1 ≤ n) {gf : Nat} {lb : Array Value} (hg : a.eval g = .func (.func gf) #[] lb) (hFg : F.fn gf) (eg : ∀ args w, (callFunc gf args).run P w = .ok (.enter gf args) w)
    {encs : α → Array Value} {G : Nat → α → World → Prop} {T : World → Prop} {S Sp : List α → Prop} {N : Nat} (hseq : Told F (n - 1) P gf lb encs G T S Sp N w) (hps : ∀ x, (encs x).size = ps.size)
    (I : List α → World → Prop) (Ib : Nat → List α → World → Prop) (Ix : Code → List α → World → Prop) (Ax : α → Act → World → Prop)
    (hIa : Abide I) (hIt : Turns w.heap.size I) (hIb : ∀ s A, I s A → Ib A.heap.size s A) (hIba : ∀ B, Abide (Ib B)) (hIbt : ∀ B, Turns w.heap.size (Ib B)) (hIxt : ∀ c, Turns w.heap.size (Ix c)) (hGa : ∀ B, Abide (G B)) (hGt : ∀ B, Turns w.heap.size (G B)) (hAt : ∀ a', Turns w.heap.size (fun x W => Ax x a' W)) (hIT : ∀ s A, I s A → T A) (h0 : I [] w)
    (hassign : ∀ (l B : Nat) (pre : List α) (x : α) (W : World) (K : Act → World → Prop), Ib B pre W → G B x W → (∀ a' W', Below W.heap.size W W' → Ax x a' W' → K a' W') →
      assign.wpIn (F.inRound l) (n - 1 - 1) P (Exit.then K (fun _ _ _ => False)) { tmps := (ps.zip (encs x)).foldl (fun t (p, v) => t.setIfInBounds p v) a.tmps, defers := [] } W)
    (hbody : ∀ (l B : Nat) (pre : List α) (x : α) (a' : Act) (W : World), Ib B pre W → G B x W → Ax x a' W → pre.length < N → body.wpIn (F.inRound l) (n - 1 - 1) P (roundEnd I Ix (pre ++ [x]) W) a' W)
    (hdone : ∀ (D : Nat) (xs : List α) (W : World), w.heap.size ≤ D → S xs → I xs W → W.heap[D]? = some (.deferred (some [])) → Q .normal { a with defers := { target := .collected D, args := #[] } :: a.defers } W)
    (hstop : ∀ (D : Nat) (c : Code) (pre : List α) (W : World), w.heap.size ≤ D → Sp pre → Ix c pre W → W.heap[D]? = some (.deferred (some [])) → c.wpIn F n P Q { a with defers := { target := .collected D, args := #[] } :: a.defers } W) :
    (Code.rangeFunc g ps assign body).wpIn F n P Q a w := by
  apply wpIn_rangeFunc
  intro fn hfn
  rw [hro]
  let R : LoopState → Option Code → Loop := fun st pe => { state := st, pending := pe, fn, tmps := a.tmps, params := ps, assign, body, defers := w.heap.size }
  have W1s := below_alloc2 w (.deferred (some [])) (.loop (R .ready none))
  have recAt : ((w.alloc (.deferred (some []))).alloc (.loop (R .ready none))).heap[w.heap.size + 1]? = some (.loop (R .ready none)) := by
    have := World.alloc_heap_new (w.alloc (.deferred (some []))) (.loop (R .ready none))
    rwa [World.size_alloc] at this
  have defAt : ((w.alloc (.deferred (some []))).alloc (.loop (R .ready none))).heap[w.heap.size]? = some (.deferred (some [])) :=
    (Below.heap_alloc _ _ _ (by simp)).trans (World.alloc_heap_new w _)
  have I1 := hIa [] _ _ h0 W1s
  refine ⟨w.heap.size + 1, [{ target := .collected w.heap.size, args := #[] }], ((w.alloc (.deferred (some []))).alloc (.loop (R .ready none))), { target := .fn (.func gf) lb, args := #[.func (.yield (w.heap.size + 1)) #[] #[]] }, ((w.alloc (.deferred (some []))).alloc (.loop (R .ready none))), gf,
    #[.func (.yield (w.heap.size + 1)) #[] #[]] ++ lb, ((w.alloc (.deferred (some []))).alloc (.loop (R .ready none))), run_enterLoop_outer fn a.tmps ps assign body, ?res, ?leads, ?inv, fun _ => h1, ?call⟩
  case res => simp only [resolve, hg]; simp [go_sem]
  case leads => intro f' hf'; simp [Target.leads] at hf'; subst hf'; exact hFg
  case inv => simp [invoke, go_sem, eg]
  case call =>
    refine (hseq (w.heap.size + 1)
      (fun pre W => I pre W ∧ W.heap[w.heap.size + 1]? = some (.loop (R .ready none)) ∧ W.heap[w.heap.size]? = some (.deferred (some [])))
      (fun pre W => ∃ c, Ix c pre W ∧ W.heap[w.heap.size + 1]? = some (.loop (R .done (some c))) ∧ W.heap[w.heap.size]? = some (.deferred (some [])))
      _ W1s ?abide (fun s A h => hIT s A h.1) ?round ⟨I1, recAt, defAt⟩).mono ?behind
    case abide =>
      rintro s A B ⟨h, hl, hk⟩ hb
      have lt := (Array.getElem?_eq_some_iff.1 hl).1
      exact ⟨hIa s A B h hb, (hb.block _ lt).trans hl, (hb.block _ (by omega)).trans hk⟩
    case round =>
      rintro pre x W0 W ⟨hi0, hl0, hk0⟩ hb hG hlen
      have hi := hIba _ _ _ _ (hIb _ _ hi0) hb
      have lt0 := (Array.getElem?_eq_some_iff.1 hl0).1
      have hl := (hb.block _ lt0).trans hl0
      have hk := (hb.block _ (by omega)).trans hk0
      have lt := (Array.getElem?_eq_some_iff.1 hl).1
      refine ⟨fn, _, assign, body, run_yield (P := P) (args := encs x) hl (hps x), roundIn_of_wpIn hfn (hassign _ _ pre x W _ hi hG ?_)⟩
      intro a2 W2 hb2 hA2
      have hl2 : W2.heap[w.heap.size + 1]? = some (.loop (R .ready none)) := (hb2.block _ lt).trans hl
      have hk2 : W2.heap[w.heap.size]? = some (.deferred (some [])) := (hb2.block _ (by omega)).trans hk
      have lt2 := (Array.getElem?_eq_some_iff.1 hl2).1
      refine ⟨_, run_beginRound hl2 rfl, ?_⟩
      have hl3 : (W2.putObj (w.heap.size + 1) (.loop (R .busy none))).heap[w.heap.size + 1]? = some (.loop (R .busy none)) := World.putObj_heap_same lt2
      have hk3 : (W2.putObj (w.heap.size + 1) (.loop (R .busy none))).heap[w.heap.size]? = some (.deferred (some [])) := (World.putObj_heap_other (by omega)).trans hk2
      refine wpIn_mono (hbody _ _ pre x a2 _ (hIbt _ pre _ _ _ _ (hIba _ pre _ _ hi hb2) (by omega) hl2 rfl) (hGt _ x _ _ _ _ (hGa _ x _ _ hG hb2) (by omega) hl2 rfl) (hAt a2 x _ _ _ _ hA2 (by omega) hl2 rfl) hlen) ?_
      have fin : ∀ (jump : Option Code) (W4 : World), KeepsOthers (W2.putObj (w.heap.size + 1) (.loop (R .busy none))) W4 →
          W4.heap[w.heap.size + 1]? = some (.loop (R .busy none)) ∧
          (W4.putObj (w.heap.size + 1) (.loop (R (if jump.isNone then .ready else .done) jump))).heap[w.heap.size + 1]? = some (.loop (R (if jump.isNone then .ready else .done) jump)) ∧
          (W4.putObj (w.heap.size + 1) (.loop (R (if jump.isNone then .ready else .done) jump))).heap[w.heap.size]? = some (.deferred (some [])) := fun jump W4 hk4 => by
        have hl4 := hk4.same _ _ hl3 rfl
        exact ⟨hl4, World.putObj_heap_same (Array.getElem?_eq_some_iff.1 hl4).1, (World.putObj_heap_other (by omega)).trans (hk4.same _ _ hk3 rfl)⟩
      rintro e a3 W4 hp
      cases e with
      | normal =>
        obtain ⟨ko, hi4⟩ := hp
        obtain ⟨hl4, hl5, hk5⟩ := fin none W4 ko
        exact ⟨_, _, run_endRound none hl4, .inl ⟨rfl, hIt _ _ _ _ _ hi4 (by omega) hl4 rfl, hl5, hk5⟩⟩
      | ret =>
        obtain ⟨ko, hi4⟩ := hp
        obtain ⟨hl4, hl5, hk5⟩ := fin (some .ret) W4 ko
        exact ⟨_, _, run_endRound (some .ret) hl4, .inr ⟨rfl, .ret, hIxt _ _ _ _ _ _ hi4 (by omega) hl4 rfl, hl5, hk5⟩⟩
      | exit id =>
        obtain ⟨ko, hi4⟩ := hp
        obtain ⟨hl4, hl5, hk5⟩ := fin (some (.exit id)) W4 ko
        exact ⟨_, _, run_endRound (some (.exit id)) hl4, .inr ⟨rfl, .exit id, hIxt _ _ _ _ _ _ hi4 (by omega) hl4 rfl, hl5, hk5⟩⟩
      | goto t =>
        obtain ⟨ko, hi4⟩ := hp
        obtain ⟨hl4, hl5, hk5⟩ := fin (some (.goto t)) W4 ko
        exact ⟨_, _, run_endRound (some (.goto t)) hl4, .inr ⟨rfl, .goto t, hIxt _ _ _ _ _ _ hi4 (by omega) hl4 rfl, hl5, hk5⟩⟩
      | panic ch => exact hp.elim
      | outgrown => exact hp.elim
    case behind =>
      rintro e W2 ⟨⟨v, rfl⟩, (⟨xs, hS, hi, hl, hk⟩ | ⟨pre, hSp, c, hi, hl, hk⟩)⟩
      · exact ⟨none, _, run_endLoop hl (fun h => by cases h), hdone _ xs _ (Nat.le_refl _) hS (hIt _ _ _ _ _ hi (by omega) hl rfl) ((World.putObj_heap_other (by omega)).trans hk)⟩
      · exact ⟨some c, _, run_endLoop hl (fun h => by cases h), hstop _ c pre _ (Nat.le_refl _) hSp (hIxt c _ _ _ _ _ hi (by omega) hl rfl) ((World.putObj_heap_other (by omega)).trans hk)⟩

/-- append(v, x) within a fence, behind 'gi_at_builtin'; the world is 'W.alloc' of the variadic's box. -/
theorem append_row {ops : Array Oper} {rest : List Oper} {o : Oper} {a : Act} {Q : Exit → Act → World → Prop} {α : Type} (d : Kd α) {W : World} (base : Nat) (hgd : o.guard = none) (s x : Operand) (t e : TypeId) (z : Value) (bytes : Nat)
    (ho : o.op = .call { callee := .builtin .append, args := #[s, x], argTypes := #[t, t] })
    (ht : P.underlying t = some (.slice e)) (hinfo : (P.info? e).map (fun i => (i.zero, i.size, i.bytes)) = some (some z, d.sz, bytes)) (hz : z.cells.size = d.sz) (hs0 : 0 < d.sz) (hb0 : 0 < bytes)
    (v : Value) (xs : List α) (p : α) (cs : List Value) (ok okp : Nat → Prop) (hs : a.eval s = v) (hx : a.eval x = .slice (some ⟨W.heap.size, 0, none⟩) 1 1) (hp : d.M W base okp p cs) (hokp : ∀ k, okp k → ok k ∧ some k ≠ v.ownBlock) (hfresh : ∀ k, W.heap.size ≤ k → ok k)
    (HO : d.R e W base ok v xs) (hbase : base ≤ W.heap.size) (hl : (xs.length + 1) * bytes ≤ 140737488355328)
    (h : ∀ v1 w1, d.R e w1 base ok v1 (xs ++ [p]) → W.grownBy w1 v.ownBlock → (v1.ownBlock = v.ownBlock ∨ ∃ b, v1.ownBlock = some b ∧ W.heap.size ≤ b) → wpListIn F n P ops Q rest (a.put o.dst v1) w1) :
    wpListIn F n P ops Q (o :: rest) a (W.alloc (.cells cs.toArray e)) := by
  obtain ⟨h0, inner, hown, hr⟩ := HO
  have hlen := d.K_len (d.K_of_M hp)
  obtain ⟨i0, hi, hzz⟩ := Option.map_eq_some_iff.1 hinfo
  simp only [Prod.mk.injEq] at hzz
  obtain ⟨hz0, hz1, hz2⟩ := hzz
  have hle : xs.length + 1 ≤ 140737488355328 := Nat.le_trans (Nat.le_mul_of_pos_right _ hb0) hl
  refine wpListIn_plain hgd fun K hK' => ?_
  obtain ⟨v1, w1, hrun, r1, r2, r3, r4⟩ := run_append_own_at (P := P) (W.alloc (.cells cs.toArray e)) base t o.type e i0 z d.sz bytes ht hi hz0 hz1 hz2 hz hs0 v xs.length inner (hown.alloc _) ⟨W.heap.size, 0, none⟩ 1 1 cs (by rw [hlen]; simp)
    (by simpa using World.news_of_block (cs := cs.toArray) (t := e) (fr := (0, 0)) (World.alloc_heap_new W (.cells cs.toArray e))) (d.K_one (d.K_of_M hp)) (by simp only [maxLen]; omega) hl (by simp; omega)
  have r4' : v1.ownBlock = v.ownBlock ∨ ∃ b, v1.ownBlock = some b ∧ W.heap.size ≤ b := by
    rcases r4 with r4 | r4
    · exact .inl r4
    · exact .inr ⟨_, r4, by simp⟩
  have r2' := World.grownBy.trans (World.grownBy_alloc W (.cells cs.toArray e) v.ownBlock) r2
  unfold Oper.wpIn
  refine ⟨?_, ?_⟩
  · simp [Oper.about, ho, resolve, Target.leads, Sem.run_pure]
  · rw [Oper.semAt_plain F _ _ (by rw [ho]; intro c hc'; cases hc')]
    simp [execOp, ho, resolve, invoke, builtin, hs, hx, hrun, Result.andThen]
    exact hK' _ _ (h v1 w1 (Kd.R_appended h0 hr hp hokp hfresh r1 r2' r4') r2' r4')
/-- The same for rows no two of which lead to one block: x's blocks are okp, none of them v's. -/
theorem append_rowS {ops : Array Oper} {rest : List Oper} {o : Oper} {a : Act} {Q : Exit → Act → World → Prop} {α : Type} (d : Kd α) {W : World} (base : Nat) (hgd : o.guard = none) (s x : Operand) (t e : TypeId) (z : Value) (bytes : Nat)
    (ho : o.op = .call { callee := .builtin .append, args := #[s, x], argTypes := #[t, t] })
    (ht : P.underlying t = some (.slice e)) (hinfo : (P.info? e).map (fun i => (i.zero, i.size, i.bytes)) = some (some z, d.sz, bytes)) (hz : z.cells.size = d.sz) (hs0 : 0 < d.sz) (hb0 : 0 < bytes)
    (v : Value) (xs : List α) (p : α) (cs : List Value) (ok okp : Nat → Prop) (hs : a.eval s = v) (hx : a.eval x = .slice (some ⟨W.heap.size, 0, none⟩) 1 1) (hp : d.M W base okp p cs) (hokp : ∀ k, okp k → ok k ∧ some k ≠ v.ownBlock) (hfresh : ∀ k, W.heap.size ≤ k → ok k)
    (HO : Kd.S d e W base (fun k => ok k ∧ ¬ okp k) v xs) (hbase : base ≤ W.heap.size) (hl : (xs.length + 1) * bytes ≤ 140737488355328)
    (h : ∀ v1 w1, Kd.S d e w1 base ok v1 (xs ++ [p]) → W.grownBy w1 v.ownBlock → (v1.ownBlock = v.ownBlock ∨ ∃ b, v1.ownBlock = some b ∧ W.heap.size ≤ b) → wpListIn F n P ops Q rest (a.put o.dst v1) w1) :
    wpListIn F n P ops Q (o :: rest) a (W.alloc (.cells cs.toArray e)) := by
  obtain ⟨f, hf, hR⟩ := Kd.S_tag HO xs.length okp (fun _ hk h2 => h2.2 hk)
  refine append_row (Kd.tag f d) base hgd s x t e z bytes ho ht hinfo hz hs0 hb0 v xs.zipIdx (p, xs.length) cs ok okp hs hx (d.M_mono (fun k hk => ⟨hk, hf k hk⟩) hp) hokp hfresh (Kd.R_mono hR (fun _ hk => hk.1)) hbase (by rw [List.length_zipIdx]; exact hl) ?_
  intro v1 w1 hr
  rw [← Kd.zip_snoc] at hr
  exact h v1 w1 ⟨f, hr⟩
theorem turns_S {α : Type} {d : Kd α} {e base : Nat} {ok : Nat → Prop} {A : World} {v : Value} {xs : List α} {l : Nat} {o o' : Obj} (h : Kd.S d e A base ok v xs) (hl : A.heap[l]? = some o) (ho : o.isCells = false) : Kd.S d e (A.putObj l o') base ok v xs := by
  have h2 := Kd.S_bound h
  exact Kd.S_mono (Kd.S_move h2 (fun k hk => by
    obtain ⟨_, _, _, q, _, cells, hc⟩ := hk
    refine World.putObj_heap_other (fun e => ?_)
    subst e
    rw [hl] at hc
    cases hc
    cases ho)) (fun k hk => hk.1)
end Go.Proofs.Ytkpfnhkfecpefaa.Seq
