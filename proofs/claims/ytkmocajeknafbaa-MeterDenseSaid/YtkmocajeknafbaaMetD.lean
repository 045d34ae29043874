/- Rows that tell where states go: what Sparse makes, and what its handle answers. -/
import Derived.Test.YtkmocajeknafbaaMetC
import Derived.Test.YtkmocajeknafbaaMapI
import Derived.DeepKeys4
import Derived.Carry
namespace Go.Proofs.Ytkmocajeknafbaa.Met
open Go Go.RowKit Go.Proofs Go.Proofs.YtkmocajeknafbaaW.PrintWords Go.Proofs.YtkmocajeknafbaaW.PrintMore Go.Proofs.Ytkmocajeknafbaa.Mp Go.Maps
set_option linter.unusedVariables false
set_option linter.unusedSimpArgs false
theorem laidOut : laidOutB Try.prog = true := by kernel_rfl
theorem edgeK : Keyed Try.prog 66 := Keyed.of_law (deep_law_laid laidOut (m := 2) (by omega) (of_decide_eq_true (by kernel_rfl)) (by kernel_rfl) (by rw [Try.underlying66]))
/-- what an edge reads as -/
def kl (s c : Int) : Lit := .string (keyBytes [.int .i64 s, .int .u8 c])
theorem keyLits_two {P : Program} {k t0 t1 : TypeId} {q0 q1 : IntKind} {f0 f1 : Field} (n : Nat) (hu : P.underlying k = some (.struct #[f0, f1])) (hn0 : (f0.name != "_") = true) (hn1 : (f1.name != "_") = true) (ho0 : f0.offset = 0) (ho1 : f1.offset = 1) (ht0 : f0.type = t0) (ht1 : f1.type = t1)
    (hu0 : P.underlying t0 = some (.int q0)) (hu1 : P.underlying t1 = some (.int q1)) (c : P.cellsOf k = 2) (c0 : P.cellsOf t0 = 1) (c1 : P.cellsOf t1 = 1) (x y : Int) (hx : (Lit.int q0 x).wf = true) (hy : (Lit.int q1 y).wf = true) :
    P.keyLits (n + 2) k [.int q0 x, .int q1 y] = some [.int q0 x, .int q1 y] := by
  subst ht0 ht1
  have e0 : P.keyLits (n + 1) f0.type [.int q0 x] = some [.int q0 x] := by simp [Program.keyLits, hu0, hx]
  have e1 : P.keyLits (n + 1) f1.type [.int q1 y] = some [.int q1 y] := by simp [Program.keyLits, hu1, hy]
  have hm0 : f0.name ≠ "_" := by simpa using hn0
  have hm1 : f1.name ≠ "_" := by simpa using hn1
  simp [Program.keyLits, hu, hu0, hu1, c, c0, c1, ho0, ho1, hm0, hm1, hx, hy]
theorem key_edge (s c : Int) (hs : (Lit.int .i64 s).wf = true) (hc : (Lit.int .u8 c).wf = true) : keyOf Try.prog 66 (.agg #[.int .i64 s, .int .u8 c]) = some (kl s c) := by
  have h1 : Try.prog.keyType 66 = true := by kernel_rfl
  have c2 : Try.prog.cellsOf 66 = 2 := by kernel_rfl
  have h2 : (Value.agg #[.int .i64 s, .int .u8 c]).formed Try.prog 66 = true := by
    simp [Value.formed, Try.underlying66, c2]
  obtain ⟨m, hsz⟩ : ∃ m, Try.prog.types.size + 1 = m + 2 := ⟨Try.prog.types.size - 1, by
    have : 1 ≤ Try.prog.types.size := of_decide_eq_true (by kernel_rfl)
    omega⟩
  have h3 : Try.prog.keyLits (Try.prog.types.size + 1) 66 [.int .i64 s, .int .u8 c] = some [.int .i64 s, .int .u8 c] := by
    rw [hsz]
    exact keyLits_two m Try.underlying66 (by rfl) (by rfl) rfl rfl rfl rfl Try.underlying3 Try.underlying5 c2 (by kernel_rfl) (by kernel_rfl) s c hs hc
  unfold keyOf
  rw [Try.underlying66]
  dsimp only
  rw [h1, h2, Value.cells]
  simp only [Bool.and_self, if_true]
  rw [h3]
  rfl
theorem kl_inj {s c s' c' : Int} (hs : (Lit.int .i64 s).wf = true) (hc : (Lit.int .u8 c).wf = true) (hs' : (Lit.int .i64 s').wf = true) (hc' : (Lit.int .u8 c').wf = true) (h : kl s c = kl s' c') : s = s' ∧ c = c' := by
  have := edgeK.inj (key_edge s c hs hc) ((key_edge s' c' hs' hc').trans (by rw [h]))
  injection this with this
  injection this with this
  injection this with h1 h2
  injection h2 with h2 _
  injection h1 with _ h1
  injection h2 with _ h2
  exact ⟨h1, h2⟩
/-- a state, a byte, and a state -/
abbrev Row := Int × Int × Int
def rdR (L : List Row) (i : Int) : Row := L.getD i.toNat (0, 0, 0)
/-- rows as they lie -/
def RowsAt (w : World) (A : Option Addr) (L : List Row) : Prop := ∀ i : Int, 0 ≤ i → i < (L.length : Int) → ∃ ad, A = some ad ∧ w.cell? (ad.add (i.toNat * 3)) = some (.int .i64 (rdR L i).1) ∧ w.cell? ⟨(ad.add (i.toNat * 3)).block, (ad.add (i.toNat * 3)).off + 1, none⟩ = some (.int .u8 (rdR L i).2.1) ∧ w.cell? ⟨(ad.add (i.toNat * 3)).block, (ad.add (i.toNat * 3)).off + 2, none⟩ = some (.int .i64 (rdR L i).2.2)
theorem RowsAt.below {w w' : World} {A : Option Addr} {L : List Row} (h : RowsAt w A L) (hb : Below w.heap.size w w') : RowsAt w' A L := by
  intro i h0 h1
  obtain ⟨ad, e, q0, q1, q2⟩ := h i h0 h1
  exact ⟨ad, e, pw_cell_below hb q0, pw_cell_below hb q1, pw_cell_below hb q2⟩
/-- rows that can be -/
def RowsOk (L : List Row) : Prop := ∀ r ∈ L, (Lit.int .i64 r.1).wf = true ∧ (Lit.int .u8 r.2.1).wf = true ∧ (Lit.int .i64 r.2.2).wf = true
/-- where rows say that a state goes by a byte -/
def sp (L : List Row) (s c : Int) : Option Int := L.foldl (fun acc r => if r.1 = s ∧ r.2.1 = c then some r.2.2 else acc) none
/-- the map of rows -/
noncomputable def fm (L : List Row) : Lit → Option Int := L.foldl (fun f r => upd f (kl r.1 r.2.1) r.2.2) (fun _ => none)
theorem fm_snoc (L : List Row) (r : Row) : fm (L ++ [r]) = upd (fm L) (kl r.1 r.2.1) r.2.2 := by unfold fm; rw [List.foldl_append]; rfl
theorem sp_snoc (L : List Row) (r : Row) (s c : Int) : sp (L ++ [r]) s c = if r.1 = s ∧ r.2.1 = c then some r.2.2 else sp L s c := by unfold sp; rw [List.foldl_append]; rfl
theorem fm_sp (L : List Row) (hL : RowsOk L) (s c : Int) (hs : (Lit.int .i64 s).wf = true) (hc : (Lit.int .u8 c).wf = true) : fm L (kl s c) = sp L s c := by
  suffices h : ∀ n, n ≤ L.length → fm (L.take n) (kl s c) = sp (L.take n) s c by
    have := h L.length (Nat.le_refl _)
    rwa [List.take_length] at this
  intro n
  induction n with
  | zero => intro _; rfl
  | succ n ih =>
    intro hn
    have hlt : n < L.length := by omega
    rw [List.take_succ_eq_append_getElem hlt, fm_snoc, sp_snoc]
    obtain ⟨h1, h2, _⟩ := hL _ (List.getElem_mem hlt)
    by_cases he : L[n].1 = s ∧ L[n].2.1 = c
    · rw [if_pos he, he.1, he.2, upd_same]
    · rw [if_neg he, upd_other, ih (by omega)]
      intro e
      obtain ⟨e1, e2⟩ := kl_inj hs hc h1 h2 e
      exact he ⟨e1.symm, e2.symm⟩
theorem zeroRow (W : World) : (zeroValue 41).run Try.prog W = .ok (.agg #[.int .i64 0, .int .u8 0, .int .i64 0]) W := by
  have h : (Try.prog.info? 41).map (·.zero) = some (some (.agg #[.int .i64 0, .int .u8 0, .int .i64 0])) := by kernel_rfl
  obtain ⟨i, hi, he⟩ := Option.map_eq_some_iff.mp h
  simp [zeroValue, typeInfo, hi, he, Sem.run_bind]
theorem zeroMap (W : World) : (zeroValue 64).run Try.prog W = .ok (.map none) W := by
  have h : (Try.prog.info? 64).map (·.zero) = some (some (.map none)) := by kernel_rfl
  obtain ⟨i, hi, he⟩ := Option.map_eq_some_iff.mp h
  simp [zeroValue, typeInfo, hi, he, Sem.run_bind]
theorem zeroI (W : World) : (zeroValue 3).run Try.prog W = .ok (.int .i64 0) W := by kernel_rfl
/-- a table of rows: its meter, and what its handle holds; all lies from base on -/
structure TabAt (w : World) (gt : Nat) (M : Option Nat) (base gp gm n : Nat) (L : List Row) : Prop where
  box : w.heap[gt]? = some (.cells #[.pointer (mp M), .func (.func 23) #[] #[.pointer (some ⟨gp, 0, none⟩)]] 70 (0, 0))
  var : w.heap[gp]? = some (.cells #[.map (some gm)] 64 (0, 0))
  map : MapI Try.prog 66 3 w gm n (fm L)
  old : ∀ k, M = some k → k < base
  new : base ≤ gt ∧ base ≤ gp ∧ base ≤ gm
theorem TabAt.kept {w w' : World} {gt base gp gm n : Nat} {M : Option Nat} {L : List Row} {S : Nat → Prop} (h : TabAt w gt M base gp gm n L) (hk : Kept w w' S) (hS : ∀ k, base ≤ k → k < w.heap.size → ¬ S k) : TabAt w' gt M base gp gm n L :=
  ⟨blk_kept h.box hk (hS gt h.new.1 (blk_lt h.box)), blk_kept h.var hk (hS gp h.new.2.1 (blk_lt h.var)), h.map.kept hk (hS gm h.new.2.2 h.map.lt), h.old, h.new⟩
theorem TabAt.below {w w' : World} {gt base gp gm n : Nat} {M : Option Nat} {L : List Row} (h : TabAt w gt M base gp gm n L) (hb : Below w.heap.size w w') : TabAt w' gt M base gp gm n L := h.kept (Kept.of_below hb (fun _ => False)) (fun _ _ _ h => h)
theorem TabAt.put {w w' : World} {gt base gp gm n : Nat} {M : Option Nat} {L : List Row} {a b c d : Int} (h : TabAt w gt M base gp gm n L) (hp : Put w w' M a b c d) : TabAt w' gt M base gp gm n L := h.kept hp.kept (fun k hk _ e => by have := h.old k e; omega)
set_option maxHeartbeats 8000000 in
set_option maxRecDepth 100000 in
/-- the handle of rows -/
theorem look1_calls {w : World} {gt base gp gm n : Nat} {M : Option Nat} {L : List Row} (h : TabAt w gt M base gp gm n L) (hL : RowsOk L) (s c : Int) (hs : (Lit.int .i64 s).wf = true) (hc : (Lit.int .u8 c).wf = true) :
    Calls Try.prog 23 #[.agg #[.int .i64 s, .int .u8 c], .pointer (some ⟨gp, 0, none⟩)] w fun e w' => e = .returned (.int .i64 ((sp L s c).getD (-1))) ∧ Below w.heap.size w w' := by
  have hb := below_alloc (Below.refl w.heap.size w) (.cells #[.int .i64 s, .int .u8 c] 66)
  have k0 : w.cell? ⟨gp, 0, none⟩ = some (.map (some gm)) := (blk_cell h.var 0).trans rfl
  have hlk := (h.map.below hb).look edgeK Try.underlying64 Try.underlying3 zeroI (key_edge s c hs hc)
  rw [fm_sp L hL s c hs hc] at hlk
  have hlt := blk_lt h.var
  have HB := Aside0.mk hb
  have hu := Try.underlying66
  clear h hb
  cases hsp : sp L s c with
  | none =>
    rw [hsp] at hlk
    go_enter Try.func23, Try.ntmps23
    go_wp2
    go_ret
    exact ⟨rfl, HB.out⟩
  | some x =>
    rw [hsp] at hlk
    go_enter Try.func23, Try.ntmps23
    go_wp2
    go_ret
    exact ⟨rfl, HB.out⟩
end Go.Proofs.Ytkmocajeknafbaa.Met
