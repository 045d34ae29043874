/- texts: byte texts as texts. -/
import Derived.Test.YtkpfnhkfecpefaaPatS
namespace Go.Proofs.Ytkpfnhkfecpefaa.Pat
open Go Go.RowKit Go.Proofs Go.Proofs.YtkpfnhkfecpefaaW.PrintWords Go.Proofs.YtkpfnhkfecpefaaW.PrintMore Go.Proofs.YtkpfnhkfecpefaaW.PrintLast Go.Proofs.Ytkpfnhkfecpefaa.Ref Go.Proofs.Ytkpfnhkfecpefaa.Aid
set_option linter.unusedVariables false
set_option linter.unusedSimpArgs false
attribute [local go_sem] max2_int min2_int max_two min_two max_three min_three
/-- what texts hands back -/
def TextsV (L : List (List Int)) (w w' : World) (v : Value) : Prop := ∃ (A : Option Addr) (n c : Nat) (r : Bool), v = .tuple #[.slice A n c, .bool r] ∧ Below w.heap.size w w' ∧ (r = true → L.length ≤ 60 ∧ (∀ b ∈ L, b.length ≤ 300) ∧ n = L.length ∧ n ≤ c ∧ Kd.C Kd.string w' A n (L.map strOfNums))
theorem all_take (L : List (List Int)) (i : Nat) (hi : i < L.length) (h : ∀ b ∈ L.take i, b.length ≤ 300) (h2 : L[i].length ≤ 300) : ∀ b ∈ L.take (i + 1), b.length ≤ 300 := by
  intro b hb
  rw [List.take_succ_eq_append_getElem hi] at hb
  rcases List.mem_append.mp hb with hb | hb
  · exact h b hb
  · rw [List.mem_singleton] at hb; subst hb; exact h2
set_option maxHeartbeats 16000000 in
set_option maxRecDepth 100000 in
theorem texts_calls (w : World) (A : Option Addr) (c : Nat) (L : List (List Int)) (hr : Kd.C kB w A L.length L) (hl : L.length * 24 ≤ 140737488351232) :
    Calls Try.prog 15 #[.slice A L.length c] w fun e w' => ∃ v, e = .returned v ∧ TextsV L w w' v := by
  have HR := Aside0.mk hr
  have HL := Aside0.mk hl
  clear hr hl
  go_enter Try.func15, Try.ntmps15
  go_wp2
  go_loopw [4, 5] (fun v4 v5 wr => ∃ (i : Nat), v5 = .int .i64 (i : Int) ∧ Aside0 (Kd.R Kd.string 9 wr w.heap.size (fun _ => True) v4 ((L.take i).map strOfNums)) ∧ Aside0 (i ≤ L.length) ∧ Aside0 (∀ b ∈ L.take i, b.length ≤ 300) ∧ Aside0 (Below w.heap.size w wr)) (fun _ v _ => L.length - (intOf v).toNat)
  case atStart => exact ⟨0, rfl, ⟨Kd.R_nil _ _ _ _ _⟩, ⟨Nat.zero_le _⟩, ⟨fun b hb => by cases hb⟩, ⟨Below.refl _ _⟩⟩
  case round =>
    obtain ⟨i, rfl, HO, HI, HS, HBW⟩ := hrel
    obtain ⟨A3, c3, hv3⟩ := Kd.R_slice HO.out
    subst hv3
    by_cases hlt : i < L.length
    · have e1 : decide ((i : Int) < (L.length : Int)) = true := decide_eq_true (by omega)
      have e2 : decide (i < L.length) = true := decide_eq_true hlt
      have HIL := Aside0.mk hlt
      obtain ⟨ad, Ab, cb, rfl, hcell, hcb, hb⟩ := row_at (Kd.C_below HR.out HBW.out) i hlt
      have HT := Aside0.mk (List.take_succ_eq_append_getElem hlt)
      have HA3 := Aside0.mk (all_take L i hlt HS.out)
      have k0 : 0 ≤ (i : Int) := by omega
      have k1 : (i : Int) < (L.length : Int) := by omega
      have hw2 : wrap64 ((i : Int) + 1) = ((i + 1 : Nat) : Int) := wr_big (by omega) (by have := HL.out; have := HIL.out; omega)
      generalize hx : (L[i]'hlt) = x at hcell HT HA3 hb hcb
      have s0 := Kd.C_string (P := Try.prog) (A := Ab) (c := cb) Try.underlying22 Try.underlying5 Try.underlying9 hb
      by_cases hbig : 300 < x.length
      · have d1 : decide ((x.length : Int) > 300) = true := decide_eq_true (by omega)
        have d2 : decide ((300 : Int) < (x.length : Int)) = true := decide_eq_true (by omega)
        have d3 : decide (300 < x.length) = true := decide_eq_true hbig
        clear hlt hb hcb hx hbig
        go_wp2
        go_ret2
        exact ⟨_, rfl, none, 0, 0, false, rfl, HBW.out, fun h => by cases h⟩
      · have d1 : decide ((x.length : Int) > 300) = false := decide_eq_false (by omega)
        have d2 : decide ((300 : Int) < (x.length : Int)) = false := decide_eq_false (by omega)
        have d3 : decide (300 < x.length) = false := decide_eq_false hbig
        have HXB := Aside0.mk (HA3.out (by omega))
        have hle : ((L.take i).map strOfNums).length = i := by rw [List.length_map, List.length_take]; have := HI.out; omega
        have HLE := Aside0.mk hle
        rw [hle]
        have HO' := Aside0.mk (hle ▸ HO.out)
        clear hlt hb hcb hx hbig hle
        obtain ⟨M, hM⟩ : ∃ M, M = (L.take i).map strOfNums := ⟨_, rfl⟩
        rw [← hM] at HO' HLE
        have HMM := Aside0.mk hM
        clear hM
        generalize hst : strOfNums x = str at s0
        have HST := Aside0.mk hst
        clear hst
        go_wp2_with (at_builtin; refine Kd.R_append Kd.string (w0 := w) (W := wr) w.heap.size rfl (.tmp 18) (.tmp 24) 31 9 (.string ⟨#[]⟩) 16 rfl Try.underlying31 info9 rfl (by decide) (by decide) (.slice A3 i c3) M str [.string str] (fun _ => True) (fun _ => False) rfl rfl rfl (fun _ h => h.elim) (fun _ _ => trivial) HO'.out HBW.out HBW.out.size (by have := HL.out; have := HIL.out; have := HLE.out; omega) ?_; intro v1 w3 hr1 hb1 hg1 hat1; have HR3 := Aside0.mk hr1; have HB3 := Aside0.mk hb1; clear hr1 hb1 hg1 hat1)
        go_roundw
        case rel => exact ⟨i + 1, by first | rfl | exact congrArg (Value.int .i64) hw2, ⟨by rw [HT.out, List.map_append, ← HMM.out]; show Kd.R Kd.string 9 _ w.heap.size _ _ (M ++ [strOfNums x]); rw [HST.out]; exact HR3.out⟩, HIL, HXB, HB3⟩
        case measure => exact ms_step HIL.out (by first | exact hw2 | simp)
    · have e1 : decide ((i : Int) < (L.length : Int)) = false := decide_eq_false (by omega)
      have e2 : decide (i < L.length) = false := decide_eq_false hlt
      have ht : L.take i = L := List.take_of_length_le (by omega)
      rw [ht] at HO HS
      have hle : (L.map strOfNums).length = L.length := List.length_map _
      have HF := Aside0.mk (Kd.R_reads' HO.out)
      rw [ht, hle] at *
      clear hlt
      by_cases hs : L.length ≤ 60
      · have d1 : decide ((L.length : Int) ≤ 60) = true := decide_eq_true (by omega)
        have d2 : decide (L.length ≤ 60) = true := decide_eq_true hs
        have HSS := Aside0.mk hs
        clear hs
        go_wp2
        go_ret2
        exact ⟨_, rfl, A3, L.length, c3, true, rfl, HBW.out, fun _ => ⟨HSS.out, HS.out, rfl, HF.out.2.1, HF.out.2.2⟩⟩
      · have d1 : decide ((L.length : Int) ≤ 60) = false := decide_eq_false (by omega)
        have d2 : decide (L.length ≤ 60) = false := decide_eq_false hs
        clear hs
        go_wp2
        go_ret2
        exact ⟨_, rfl, A3, L.length, c3, false, rfl, HBW.out, fun h => by cases h⟩
end Go.Proofs.Ytkpfnhkfecpefaa.Pat
