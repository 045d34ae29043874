/- A set's patterns, anew; and the set of some texts. -/
import Derived.Test.YtkpfnhkfecpefaaPatA
import Derived.Test.YtkpfnhkfecpefaaWinT
namespace Go.Proofs.Ytkpfnhkfecpefaa.Pat
open Go Go.RowKit Go.Proofs Go.Proofs.YtkpfnhkfecpefaaW.PrintWords Go.Proofs.YtkpfnhkfecpefaaW.PrintMore Go.Proofs.YtkpfnhkfecpefaaW.PrintLast Go.Proofs.Ytkpfnhkfecpefaa.Mp Go.Maps Go.Proofs.Ytkpfnhkfecpefaa.Win
set_option linter.unusedVariables false
set_option linter.unusedSimpArgs false
attribute [local go_sem] max2_int min2_int max_two min_two max_three min_three
/-- a set that lies from base on -/
structure SetO (w : World) (base : Nat) (v : Value) (s : PS) : Prop where
  lies : ∃ A c bm n f, v = .agg #[.slice A s.l.length c, .map (some bm), .bool s.e] ∧ Kd.R kB 22 w base (fun _ => True) (.slice A s.l.length c) s.l ∧ MapI Try.prog 9 3 w bm n f ∧ (∀ b, (f (kb b)).isSome = inP s.l b) ∧ base ≤ bm
theorem SetO.toC {w : World} {base : Nat} {v : Value} {s : PS} (h : SetO w base v s) : SetC w v s := by
  obtain ⟨A, c, bm, n, f, rfl, hR, hM, hf, hb⟩ := h.lies
  obtain ⟨r1, r2, r3⟩ := Kd.R_reads' hR
  exact ⟨⟨A, c, some bm, rfl, r2, r3, fun bm2 e => by cases e; exact ⟨n, f, hM, hf⟩, fun e => by cases e⟩⟩
theorem SetO.kept {w w' : World} {base : Nat} {v : Value} {s : PS} {S : Nat → Prop} (h : SetO w base v s) (hk : Kept w w' S) (hS : ∀ k, base ≤ k → k < w.heap.size → ¬ S k) : SetO w' base v s := by
  obtain ⟨A, c, bm, n, f, rfl, hR, hM, hf, hb⟩ := h.lies
  exact ⟨⟨A, c, bm, n, f, rfl, Kd.R_mono (Kd.R_kept (Kd.R_bound hR) hk (fun k hk2 => hS k hk2.2.1 hk2.2.2.1)) (fun _ _ => trivial), hM.kept hk (hS bm hb hM.lt), hf, hb⟩⟩
theorem SetO.lower {w : World} {base base' : Nat} {v : Value} {s : PS} (h : SetO w base v s) (hb' : base' ≤ base) : SetO w base' v s := by
  obtain ⟨A, c, bm, n, f, rfl, hR, hM, hf, hb⟩ := h.lies
  exact ⟨⟨A, c, bm, n, f, rfl, Kd.R_lower hR hb', hM, hf, Nat.le_trans hb' hb⟩⟩
theorem infoR : (Try.prog.info? 22).map (fun i => (i.zero, i.size, i.bytes)) = some (some (.slice none 0 0), 1, 24) := by kernel_rfl
theorem clone_calls (A0 : Option Addr) (c0 : Nat) (l0 : List Int) (n : Nat) (w : World) (hr0 : Kd.C (Kd.int .u8) w A0 l0.length l0) (hc0 : l0.length ≤ c0) (hn : n = l0.length) (hl : l0.length < 140737488355328) :
    Calls Try.prog 28 #[.slice A0 n c0] w fun e w' => ∃ v0_ : Value, e = .returned v0_ ∧ Kd.R (Kd.int .u8) 5 w' w.heap.size (fun _ => True) v0_ l0 ∧ Below w.heap.size w w' := by
  subst hn
  exact Lin.slices_Clone_byte_byte.calls A0 c0 l0 l0 w hr0 hc0 (by unfold Lin.slices_Clone_byte_byte.f; rw [if_pos hl])
set_option maxHeartbeats 8000000 in
set_option maxRecDepth 100000 in
theorem patterns_calls {w : World} {v : Value} {s : PS} (h : SetC w v s) (hl : s.l.length ≤ 1000000) (hp : ∀ p ∈ s.l, p.length ≤ 1000000) :
    Calls Try.prog 18 #[v] w fun e w' => ∃ v', e = .returned v' ∧ Kd.R kB 22 w' w.heap.size (fun _ => True) v' s.l ∧ Below w.heap.size w w' := by
  obtain ⟨A, c, M, rfl, hc, hC, hM, hN⟩ := h.lies
  generalize s.l = L at hc hC hl hp ⊢
  generalize s.e = e0
  have HB := Aside0.mk (bx_below w A L.length c M e0)
  have HC := Aside0.mk hC
  have HL := Aside0.mk hl
  have HP := Aside0.mk hp
  have HLN := Aside0.mk (C_len hC)
  have hu := Try.underlying27
  clear h hC hM hN hc hl hp
  go_enter Try.func18, Try.ntmps18
  go_wp2
  go_loopw [3, 9] (fun v3 v9 wr => ∃ (i : Nat), v9 = .int .i64 (i : Int) ∧ Aside0 (Kd.R kB 22 wr w.heap.size (fun _ => True) v3 (L.take i)) ∧ Aside0 (i ≤ L.length) ∧ Aside0 (Below w.heap.size w wr)) (fun _ v _ => L.length - (intOf v).toNat)
  case atStart => exact ⟨0, rfl, ⟨Kd.R_nil _ _ _ _ _⟩, ⟨Nat.zero_le _⟩, HB⟩
  case round =>
    obtain ⟨i, rfl, HO, HI, HBW⟩ := hrel
    obtain ⟨A3, c3, hv3⟩ := Kd.R_slice HO.out
    subst hv3
    by_cases hlt : i < L.length
    · have e1 : decide ((i : Int) < (L.length : Int)) = true := decide_eq_true (by omega)
      have e2 : decide (i < L.length) = true := decide_eq_true hlt
      have HIL := Aside0.mk hlt
      obtain ⟨ad, Ab, cb, rfl, hcell, hcb, hb⟩ := row_at (Kd.C_below HC.out HBW.out) i hlt
      have HT := Aside0.mk (List.take_succ_eq_append_getElem hlt)
      have HX := Aside0.mk hb
      have HXL := Aside0.mk (And.intro hcb (HP.out _ (List.getElem_mem hlt)))
      generalize hx : (L[i]'hlt) = x at hcell HT HX HXL
      have HTL := Aside0.mk (show (L.take i).length ≤ 1000000 by rw [List.length_take]; have := HL.out; omega)
      have k0 : 0 ≤ (i : Int) := by omega
      have k1 : (i : Int) < (L.length : Int) := by omega
      have hw2 : wrap64 ((i : Int) + 1) = ((i + 1 : Nat) : Int) := wr_big (by omega) (by have := HLN.out; have := HIL.out; omega)
      generalize L.take i = T at HO HT HTL
      clear hlt hb hcb hx
      go_wp2_with fail
      refine (clone_calls Ab cb x x.length wr HX.out HXL.out.1 rfl (by have := HXL.out.2; omega)).mono ?_
      rintro e w2 ⟨v2, rfl, hr2, hb2⟩
      obtain ⟨A2, c2, hv2⟩ := Kd.R_slice hr2
      subst hv2
      have HR2 := Aside0.mk hr2
      have HB2 := Aside0.mk hb2
      have HO2 := Aside0.mk (Kd.R_below (Kd.R_bound HO.out) hb2)
      have HOL := Aside0.mk (fun (k : Nat) (e : (Value.slice A3 T.length c3).ownBlock = some k) => Kd.R_lt HO.out k e)
      clear hr2 hb2
      go_wp2_with (at_builtin; refine Kd.R_append kB (w0 := w) (W := w2) w.heap.size rfl (.tmp 13) (.tmp 16) 24 22 (.slice none 0 0) 24 rfl Try.underlying24 infoR rfl (by decide) (by decide) (.slice A3 T.length c3) T x [.slice A2 x.length c2] (fun _ => True) (fun k => wr.heap.size ≤ k) rfl rfl ⟨_, rfl, Kd.R_lower (Kd.R_mono (Kd.R_bound HR2.out) (fun k hk => hk.2.1)) HBW.out.size⟩ (fun k hk => ⟨trivial, fun e => by have := HOL.out k e.symm; omega⟩) (fun _ _ => trivial) (Kd.R_mono HO2.out (fun _ _ => trivial)) (Below.trans HBW.out (HB2.out.mono HBW.out.size)) (Nat.le_trans HBW.out.size HB2.out.size) (by have := HTL.out; omega) ?_; intro v1 w3 hr1 hb1 hg1 hat1; have HR3 := Aside0.mk hr1; have HB3 := Aside0.mk hb1; clear hr1 hb1 hg1 hat1)
      go_roundw
      case rel => exact ⟨i + 1, by first | rfl | exact congrArg (Value.int .i64) hw2, ⟨by rw [HT.out]; exact HR3.out⟩, HIL, HB3⟩
      case measure => exact ms_step HIL.out (by first | exact hw2 | simp)
    · have e1 : decide ((i : Int) < (L.length : Int)) = false := decide_eq_false (by omega)
      have e2 : decide (i < L.length) = false := decide_eq_false hlt
      have HE := Aside0.mk (show Kd.R kB 22 wr w.heap.size (fun _ => True) (.slice A3 (L.take i).length c3) L by have := HO.out; have ht : L.take i = L := List.take_of_length_le (by omega); rw [ht] at this ⊢; exact this)
      clear hlt
      go_wp2
      go_ret
      exact ⟨_, rfl, HE.out, HBW.out⟩
end Go.Proofs.Ytkpfnhkfecpefaa.Pat
