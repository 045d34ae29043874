/- A map of whole numbers as a function of what its keys read as: made, looked up, written. For every program and every kind of key. -/
import Derived.Test.YtkpfnhkfecpefaaWWords
import Derived.Test.YtkpfnhkfecpefaaWKept
import Derived.Maps.Own
import Derived.Maps.OwnOps
import Derived.Maps.OwnSet
import Derived.Maps.Views
namespace Go.Proofs.Ytkpfnhkfecpefaa.Mp
open Go Go.RowKit Go.Proofs Go.Proofs.YtkpfnhkfecpefaaW.PrintWords Go.Maps
set_option linter.unusedVariables false
set_option linter.unusedSimpArgs false
/-- block b is a map of at most n entries: f tells the number at what a key reads as -/
def MapI (P : Program) (k e : TypeId) (w : World) (b n : Nat) (f : Lit → Option Int) : Prop :=
  ∃ D : DataW Unit, w.ownsMap P k (plainElem P e) b n D ∧ ∀ kl, WideAt.IsKeyLit kl → Maps.has D kl = (f kl).isSome ∧ ∀ x, f kl = some x → ∀ z, D.atKey kl z = .lit (.int .i64 x)
open Classical in
/-- the number at one key anew -/
noncomputable def upd (f : Lit → Option Int) (kl : Lit) (c : Int) : Lit → Option Int := fun l => if l = kl then some c else f l
theorem upd_same (f : Lit → Option Int) (kl : Lit) (c : Int) : upd f kl c kl = some c := by unfold upd; rw [if_pos rfl]
theorem upd_other (f : Lit → Option Int) {kl l : Lit} (c : Int) (h : l ≠ kl) : upd f kl c l = f l := by unfold upd; rw [if_neg h]
section
variable {P : Program} {k e t : TypeId} {w w' : World} {b n : Nat} {f : Lit → Option Int}
theorem MapI.lt (h : MapI P k e w b n f) : b < w.heap.size := by
  obtain ⟨D, h1, _⟩ := h
  exact h1.lt
theorem MapI.kept {S : Nat → Prop} (h : MapI P k e w b n f) (hk : Kept w w' S) (hS : ¬ S b) : MapI P k e w' b n f := by
  have hlt := h.lt
  obtain ⟨D, ⟨es, clock, h1, h2, h3, h4⟩, h5⟩ := h
  exact ⟨D, ⟨es, clock, (hk.2 b hlt hS).trans h1, h2, h3, h4⟩, h5⟩
theorem MapI.below (h : MapI P k e w b n f) (hb : Below w.heap.size w w') : MapI P k e w' b n f := h.kept (Kept.of_below hb (fun _ => False)) (fun h => h)
theorem MapI.mono {n' : Nat} (h : MapI P k e w b n f) (hn : n ≤ n') : MapI P k e w b n' f := by
  obtain ⟨D, h1, h2⟩ := h
  exact ⟨D, h1.mono hn, h2⟩
theorem MapI.ext {f' : Lit → Option Int} (h : MapI P k e w b n f) (hf : ∀ kl, f kl = f' kl) : MapI P k e w b n f' := by
  obtain ⟨D, h1, h2⟩ := h
  exact ⟨D, h1, fun kl hkl => by rw [← hf kl]; exact h2 kl hkl⟩
theorem MapI.made (P : Program) (k e : TypeId) (w : World) : MapI P k e (w.alloc (.map #[] 0)) w.heap.size 0 (fun _ => none) :=
  ⟨.map [], World.ownsMap_made w P k _, fun kl _ => ⟨rfl, fun x hx => by cases hx⟩⟩
/-- 'v, ok := m[k]' -/
theorem MapI.look (h : MapI P k e w b n f) (K : Keyed P k) (ht : P.underlying t = some (.map k e)) (he : P.underlying e = some (.int .i64)) (hz : ∀ W, (zeroValue e).run P W = .ok (.int .i64 0) W) {key : Value} {kl : Lit} (hkey : keyOf P k key = some kl) :
    (Instr.lookup t (.map (some b)) key true).run P w = .ok (.tuple #[.int .i64 ((f kl).getD 0), .bool (f kl).isSome]) w := by
  obtain ⟨D, h1, h2⟩ := h
  obtain ⟨hh, hx⟩ := h2 kl (K.key hkey)
  have hw0 : (Lit.int .i64 0).wf = true := by decide
  obtain ⟨v, ps, hrun, hv⟩ := h1.look_ok K ht (hz w) (plainElem_int he hw0) hkey
  obtain ⟨c, rfl, hc, _⟩ := plainElem_int_inv he hv
  rw [hrun, hh]
  simp only [Prod.mk.injEq] at hc
  cases hf : f kl with
  | none =>
    rw [hf] at hh
    have := Maps.atKey_of_not_has hh (.lit (.int .i64 0))
    rw [this] at hc
    cases hc.1
    rfl
  | some x =>
    have := hx x hf (.lit (.int .i64 0))
    rw [this] at hc
    cases hc.1
    rfl
/-- 'm[k] = v' -/
theorem MapI.store (h : MapI P k e w b n f) (K : Keyed P k) (ht : P.underlying t = some (.map k e)) (he : P.underlying e = some (.int .i64)) (hn : n < maxLen) {key : Value} {kl : Lit} (hkey : keyOf P k key = some kl) (v : Int) (hv : (Lit.int .i64 v).wf = true) :
    ∃ w', (Instr.mapUpdate t (.map (some b)) key (.int .i64 v)).run P w = .ok () w' ∧ MapI P k e w' b (n + 1) (upd f kl v) ∧ w.grownBy w' (some b) := by
  obtain ⟨D, h1, h2⟩ := h
  obtain ⟨w', hrun, r1, r2⟩ := h1.update K ht hn hkey (plainElem_int he hv)
  refine ⟨w', hrun, ⟨_, r1, fun l hl => ?_⟩, r2⟩
  have hm := h1.isMap
  have hkk := K.key hkey
  by_cases hlk : l = kl
  · subst hlk
    rw [upd_same]
    exact ⟨Maps.has_put_same hm hkk _, fun x hx z => by cases hx; exact Maps.atKey_put_same hm hkk _ z⟩
  · rw [upd_other f v hlk, Maps.has_put_other hlk]
    exact ⟨(h2 l hl).1, fun x hx z => by rw [Maps.atKey_put_other hlk]; exact (h2 l hl).2 x hx z⟩
theorem kept_grown {row : Nat} (hg : w.grownBy w' (some row)) : Kept w w' (fun k => k = row) := ⟨hg.size, fun i hi hne => hg.block i hi (fun e => hne (by injection e))⟩
/-- 'm[k] = v' at the operation. -/
theorem wpList_mapI {ops : Array Oper} {rest : List Oper} {o : Oper} {a : Act} {Q : Exit → Act → World → Prop} (hg : o.guard = none) (m x v : Operand) (t : TypeId) (hop : o.op = Op.mapUpdate t m x v)
    (K : Keyed P k) (ht : P.underlying t = some (.map k e)) (he : P.underlying e = some (.int .i64)) (hm : a.eval m = .map (some b)) (h : MapI P k e w b n f) (hn : n < maxLen) (key : Value) (kl : Lit) (c : Int) (hx : a.eval x = key) (hv : a.eval v = .int .i64 c) (hkey : keyOf P k key = some kl) (hc : (Lit.int .i64 c).wf = true)
    (hK : ∀ w', MapI P k e w' b (n + 1) (upd f kl c) → w.grownBy w' (some b) → wpList P ops Q rest (a.put o.dst undef) w') :
    wpList P ops Q (o :: rest) a w := by
  refine wpList_plain hg fun K' hK' => ?_
  obtain ⟨w', hrun, r1, r2⟩ := h.store K ht he hn hkey c hc
  unfold Oper.wp
  simp [execOp, hop, hm, hx, hv, hrun, Result.andThen]
  exact hK' _ _ (hK w' r1 r2)
end
end Go.Proofs.Ytkpfnhkfecpefaa.Mp
