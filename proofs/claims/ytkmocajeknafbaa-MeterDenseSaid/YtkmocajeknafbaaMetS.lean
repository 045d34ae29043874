/- Rows of the document's, and what its Sparse answers; asks as they lie. -/
import Derived.Test.YtkmocajeknafbaaMetG
namespace Go.Proofs.Ytkmocajeknafbaa.Met
open Go Go.RowKit Go.Proofs Go.Proofs.YtkmocajeknafbaaW.PrintWords Go.Proofs.YtkmocajeknafbaaW.PrintMore Go.Proofs.Ytkmocajeknafbaa.Mp Go.Maps
set_option linter.unusedVariables false
set_option linter.unusedSimpArgs false
/-- rows as a kind -/
def kR : Kd Row := Kd.pair (Kd.int .i64) (Kd.pair (Kd.int .u8) (Kd.int .i64))
theorem kR_open {w : World} {x : Row} {cs : List Value} (h : kR.K w x cs) : cs = [.int .i64 x.1, .int .u8 x.2.1, .int .i64 x.2.2] := by
  obtain ⟨_, _, rfl, rfl, ⟨_, _, rfl, rfl, rfl⟩⟩ := h
  exact rfl
theorem kR_mkM (w : World) (base : Nat) (ok : Nat → Prop) (x : Row) : kR.M w base ok x [.int .i64 x.1, .int .u8 x.2.1, .int .i64 x.2.2] := ⟨[.int .i64 x.1], [.int .u8 x.2.1, .int .i64 x.2.2], rfl, rfl, ⟨[.int .u8 x.2.1], [.int .i64 x.2.2], rfl, rfl, rfl⟩⟩
theorem rows_C {w : World} {A : Option Addr} {L : List Row} (h : Kd.C kR w A L.length L) : RowsAt w A L := by
  intro i h0 h1
  obtain ⟨ad, c, e, _, hK, hc0⟩ := Kd.C_get h ((0, 0, 0) : Row) i h0 h1
  have hc : ∀ j u, c[j]? = some u → w.cell? (ad.add (i.toNat * 3 + j)) = some u := hc0
  obtain rfl := kR_open hK
  exact ⟨ad, e, hc 0 _ rfl, by rw [← add_field _ _ 1 (by omega)]; exact hc 1 _ rfl, by rw [← add_field _ _ 2 (by omega)]; exact hc 2 _ rfl⟩
theorem rdR_nat (L : List Row) (n : Nat) (h : n < L.length) : rdR L (n : Int) = L[n] := by unfold rdR; rw [Int.toNat_natCast, List.getD_eq_getElem?_getD, List.getElem?_eq_getElem h]; rfl
set_option maxHeartbeats 8000000 in
set_option maxRecDepth 100000 in
theorem refsp_calls (A : Option Addr) (cp : Nat) (L : List Row) (s y : Int) (w : World) (hr : RowsAt w A L) (hl : L.length ≤ 1000000) :
    Calls Try.prog 16 #[.slice A L.length cp, .int .i64 s, .int .u8 y] w fun e w' => e = .returned (.int .i64 ((sp L s y).getD (-1))) ∧ Below w.heap.size w w' := by
  have HR := Aside0.mk hr
  have HLL := Aside0.mk hl
  have hu := Try.underlying42
  clear hr hl
  go_enter Try.func16, Try.ntmps16
  go_wp2
  go_loop [7, 8] (fun v7 v8 => ∃ n : Nat, v8 = .int .i64 (n : Int) ∧ v7 = .int .i64 ((sp (L.take n) s y).getD (-1)) ∧ Aside0 (n ≤ L.length)) (fun _ v => L.length - (intOf v).toNat)
  case atStart => exact ⟨0, rfl, rfl, ⟨Nat.zero_le _⟩⟩
  case round =>
    obtain ⟨n, rfl, rfl, HN⟩ := hrel
    by_cases hlt : n < L.length
    · have d1 : decide ((n : Int) < (L.length : Int)) = true := decide_eq_true (by omega)
      have d2 : decide (n < L.length) = true := decide_eq_true hlt
      have p1 : 0 ≤ (n : Int) := by omega
      have q1 : (n : Int) < (L.length : Int) := by omega
      obtain ⟨ad, e, hx0, hx1, hx2⟩ := HR.out (n : Int) p1 q1
      cases e
      rw [rdR_nat L n hlt, Int.toNat_natCast] at hx0 hx1 hx2
      have HTK := Aside0.mk (show (sp (L.take (n + 1)) s y).getD (-1) = if L[n].1 = s ∧ L[n].2.1 = y then L[n].2.2 else (sp (L.take n) s y).getD (-1) by
        rw [List.take_succ_eq_append_getElem hlt, sp_snoc]
        split <;> rfl)
      generalize L[n] = r at hx0 hx1 hx2 HTK
      obtain ⟨r0, r1, r2⟩ := r
      have HW := Aside0.mk (show wrap64 ((n : Int) + 1) = ((n + 1 : Nat) : Int) by have := HLL.out; unfold wrap64; omega)
      have HNL := Aside0.mk hlt
      generalize (sp (L.take n) s y).getD (-1) = acc at HTK ⊢
      clear hlt
      by_cases e0 : r0 = s
      · have b0 : (r0 == s) = true := beq_iff_eq.mpr e0
        by_cases e1 : r1 = y
        · have b1 : (r1 == y) = true := beq_iff_eq.mpr e1
          have HV := Aside0.mk (show (sp (L.take (n + 1)) s y).getD (-1) = r2 by rw [HTK.out, if_pos ⟨e0, e1⟩])
          clear e0 e1
          go_wp2
          go_round
          case rel => exact ⟨n + 1, by first | exact congrArg (Value.int .i64) HW.out | rfl, congrArg (Value.int .i64) HV.out.symm, ⟨HNL.out⟩⟩
          case measure => exact ms_step HNL.out HW.out
        · have b1 : (r1 == y) = false := beq_eq_false_iff_ne.mpr e1
          have HV := Aside0.mk (show (sp (L.take (n + 1)) s y).getD (-1) = acc by rw [HTK.out, if_neg (fun h => e1 h.2)])
          clear e0 e1
          go_wp2
          go_round
          case rel => exact ⟨n + 1, by first | exact congrArg (Value.int .i64) HW.out | rfl, congrArg (Value.int .i64) HV.out.symm, ⟨HNL.out⟩⟩
          case measure => exact ms_step HNL.out HW.out
      · have b0 : (r0 == s) = false := beq_eq_false_iff_ne.mpr e0
        have HV := Aside0.mk (show (sp (L.take (n + 1)) s y).getD (-1) = acc by rw [HTK.out, if_neg (fun h => e0 h.1)])
        clear e0
        go_wp2
        go_round
        case rel => exact ⟨n + 1, by first | exact congrArg (Value.int .i64) HW.out | rfl, congrArg (Value.int .i64) HV.out.symm, ⟨HNL.out⟩⟩
        case measure => exact ms_step HNL.out HW.out
    · have hn : n = L.length := by have := HN.out; omega
      subst hn
      have d1 : decide ((L.length : Int) < (L.length : Int)) = false := decide_eq_false (by omega)
      have d2 : decide (L.length < L.length) = false := decide_eq_false (by omega)
      rw [List.take_length]
      clear hlt
      go_wp2
      go_ret
      exact ⟨rfl, Below.refl _ _⟩
/-- a state and a byte that are asked for -/
abbrev Ask := Int × Int
def rdA (Q : List Ask) (i : Int) : Ask := Q.getD i.toNat (0, 0)
def AsksAt (w : World) (A : Option Addr) (Q : List Ask) : Prop := ∀ i : Int, 0 ≤ i → i < (Q.length : Int) → ∃ ad, A = some ad ∧ w.cell? (ad.add (i.toNat * 2)) = some (.int .i64 (rdA Q i).1) ∧ w.cell? ⟨(ad.add (i.toNat * 2)).block, (ad.add (i.toNat * 2)).off + 1, none⟩ = some (.int .u8 (rdA Q i).2)
theorem AsksAt.below {w w' : World} {A : Option Addr} {Q : List Ask} (h : AsksAt w A Q) (hb : Below w.heap.size w w') : AsksAt w' A Q := by
  intro i h0 h1
  obtain ⟨ad, e, q0, q1⟩ := h i h0 h1
  exact ⟨ad, e, pw_cell_below hb q0, pw_cell_below hb q1⟩
def AsksOk (Q : List Ask) : Prop := ∀ r ∈ Q, (Lit.int .i64 r.1).wf = true ∧ (Lit.int .u8 r.2).wf = true
theorem rdA_nat (Q : List Ask) (n : Nat) (h : n < Q.length) : rdA Q (n : Int) = Q[n] := by unfold rdA; rw [Int.toNat_natCast, List.getD_eq_getElem?_getD, List.getElem?_eq_getElem h]; rfl
theorem infoR : (Try.prog.info? 42).map (fun i => (i.zero, i.size, i.bytes)) = some (some (.agg #[.int .i64 0, .int .u8 0, .int .i64 0]), 3, 24) := by kernel_rfl
theorem TabAt.drew {w : World} {gt base gp gm n : Nat} {M : Option Nat} {L : List Row} (h : TabAt w gt M base gp gm n L) : TabAt w.drew gt M base gp gm n L := h.below (below_drew (Below.refl _ _))
end Go.Proofs.Ytkmocajeknafbaa.Met
