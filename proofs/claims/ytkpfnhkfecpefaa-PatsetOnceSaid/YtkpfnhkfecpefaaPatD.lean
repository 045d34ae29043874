/- fold.Byte and fold.Bytes: turned from what was laid for another seat. No condition. -/
import Derived.Test.YtkpfnhkfecpefaaPatC
namespace Go.Proofs.Ytkpfnhkfecpefaa.Pat
open Go Go.RowKit Go.Proofs Go.Proofs.YtkpfnhkfecpefaaW.PrintWords Go.Proofs.YtkpfnhkfecpefaaW.PrintMore Go.Proofs.YtkpfnhkfecpefaaW.PrintLast
set_option linter.unusedVariables false
set_option linter.unusedSimpArgs false
attribute [local go_sem] max2_int min2_int max_two min_two max_three min_three
def fold_Byte.f (a0 : Int) : Option (Int) := if 65 ≤ a0 then (if a0 ≤ 90 then (some ((((a0 + 97) % 256) - 65) % 256)) else (some a0)) else (some a0)
set_option maxHeartbeats 8000000 in
set_option maxRecDepth 100000 in
theorem fold_Byte.calls (a0 : Int) (r : Int) (w : World) (h : fold_Byte.f a0 = some r) :
    Calls Try.prog 30 #[.int .u8 a0] w fun e w' => e = .returned (.int .u8 r) ∧ Drawn0 w w' := by
  have H : (if 65 ≤ a0 then (if a0 ≤ 90 then (some ((((a0 + 97) % 256) - 65) % 256)) else (some a0)) else (some a0)) = some r := h
  clear h
  by_cases c2 : 65 ≤ a0
  · rw [if_pos c2] at H
    have c2b0 : decide (65 ≤ a0) = true := decide_eq_true c2
    clear c2
    by_cases c3 : a0 ≤ 90
    · rw [if_pos c3] at H
      have c3b0 : decide (a0 ≤ 90) = true := decide_eq_true c3
      clear c3
      obtain rfl := Option.some.inj H
      go_enter Try.func30, Try.ntmps30
      go_wp2
      go_ret
      exact ⟨by first | rfl | (simp; done) | (simp [*]; done) | (simp; exact (by intro a b; cases a <;> cases b <;> rfl : ∀ a b : Bool, (a == b) = (!(a != b))) _ _), by repeat (first | exact Drawn0.refl _ | apply Drawn0.step)⟩
    · rw [if_neg c3] at H
      have c3b0 : decide (a0 ≤ 90) = false := decide_eq_false c3
      clear c3
      obtain rfl := Option.some.inj H
      go_enter Try.func30, Try.ntmps30
      go_wp2
      go_ret
      exact ⟨by first | rfl | (simp; done) | (simp [*]; done) | (simp; exact (by intro a b; cases a <;> cases b <;> rfl : ∀ a b : Bool, (a == b) = (!(a != b))) _ _), by repeat (first | exact Drawn0.refl _ | apply Drawn0.step)⟩
  · rw [if_neg c2] at H
    have c2b0 : decide (65 ≤ a0) = false := decide_eq_false c2
    clear c2
    obtain rfl := Option.some.inj H
    go_enter Try.func30, Try.ntmps30
    go_wp2
    go_ret
    exact ⟨by first | rfl | (simp; done) | (simp [*]; done) | (simp; exact (by intro a b; cases a <;> cases b <;> rfl : ∀ a b : Bool, (a == b) = (!(a != b))) _ _), by repeat (first | exact Drawn0.refl _ | apply Drawn0.step)⟩
def upB (c : Int) : Bool := decide (65 ≤ c) && decide (c ≤ 90)
def byteI (c : Int) : Int := if upB c = true then c + 32 else c
theorem byte_f (c : Int) : fold_Byte.f c = some (byteI c) := by
  unfold fold_Byte.f byteI upB
  by_cases h : 65 ≤ c
  · by_cases k : c ≤ 90
    · simp only [h, k, if_true, decide_true, Bool.and_self]
      congr 1
      omega
    · simp [h, k]
  · simp [h]
theorem rd_n (l : List Int) (n : Nat) (h : n < l.length) : rd l (n : Int) = l[n] := by
  unfold rd; rw [Int.toNat_natCast, List.getD_eq_getElem?_getD, List.getElem?_eq_getElem h]; rfl
/-- the first ones without case, the others as they were -/
def bytesUp (l : List Int) (n : Nat) : List Int := (l.take n).map byteI ++ l.drop n
theorem bytesUp_len (l : List Int) (n : Nat) : (bytesUp l n).length = l.length := by
  unfold bytesUp; simp; omega
theorem bytesUp_rd (l : List Int) (n : Nat) (h : n < l.length) : rd (bytesUp l n) (n : Int) = l[n] := by
  rw [rd_n _ n (by rw [bytesUp_len]; exact h)]
  unfold bytesUp
  rw [List.getElem_append_right (by simp; omega)]
  simp [show n - min n l.length = 0 by omega]
theorem bytesUp_succ (l : List Int) (n : Nat) (h : n < l.length) : (bytesUp l n).set n (byteI l[n]) = bytesUp l (n + 1) := by
  unfold bytesUp
  have e : ((l.take n).map byteI).length = n := by simp; omega
  rw [List.set_append_right _ _ (by rw [e]; exact Nat.le_refl _), e, Nat.sub_self, List.drop_eq_getElem_cons h, List.set_cons_zero, List.take_succ_eq_append_getElem h, List.map_append, List.append_assoc]
  rfl
set_option maxHeartbeats 8000000 in
set_option maxRecDepth 100000 in
theorem bytes_calls (A0 : Option Addr) (c0 : Nat) (l0 : List Int) (w : World) (hr0 : Kd.C (Kd.int .u8) w A0 l0.length l0) (hc0 : l0.length ≤ c0) (hl : l0.length < 140737488355328) :
    Calls Try.prog 23 #[.slice A0 l0.length c0] w fun e w' => ∃ v0_ : Value, e = .returned v0_ ∧ Kd.R (Kd.int .u8) 5 w' w.heap.size (fun _ => True) v0_ (l0.map byteI) ∧ Below w.heap.size w w' := by
  have HCL := Aside0.mk (Lin.slices_Clone_byte_byte.calls A0 c0 l0 l0 w hr0 hc0 (by unfold Lin.slices_Clone_byte_byte.f; rw [if_pos hl]))
  have HM := Aside0.mk hl
  have HBC := Aside0.mk (fun (c : Int) (w : World) => fold_Byte.calls c (byteI c) w (byte_f c))
  clear hr0 hc0 hl
  go_enter Try.func23, Try.ntmps23
  go_wp2_with fail
  refine HCL.out.mono ?_
  rintro e w1 ⟨v, rfl, hr, hb⟩
  have HR1 := Aside0.mk hr
  have HB1 := Aside0.mk hb
  clear hr hb HCL
  rcases Nat.eq_zero_or_pos l0.length with h0 | h0
  · obtain ⟨A, c, rfl⟩ := Kd.R_slice HR1.out
    obtain rfl := List.length_eq_zero_iff.mp h0
    clear h0
    go_wp2
    go_loopw [10] (fun v10 wr => v10 = .int .i64 0 ∧ Aside0 (wr = w1)) (fun _ _ => 0)
    case atStart => exact ⟨rfl, ⟨rfl⟩⟩
    case round =>
      obtain ⟨rfl, HW⟩ := hrel
      go_wp2
      go_ret
      exact ⟨_, rfl, by rw [HW.out]; exact HR1.out, by rw [HW.out]; exact HB1.out⟩
  · obtain ⟨g, cap, rfl, hg, hgl, cells, hcl⟩ := Kd.R_form HR1.out h0
    have HG := Aside0.mk hg
    clear hgl hcl hg cells h0
    go_wp2
    go_loopw [10] (fun v10 wr => ∃ n : Nat, v10 = .int .i64 (n : Int) ∧ Aside0 (n ≤ l0.length) ∧ Aside0 (Kd.R (Kd.int .u8) 5 wr w.heap.size (fun _ => True) (.slice (some ⟨g, 0, none⟩) (bytesUp l0 n).length cap) (bytesUp l0 n)) ∧ Aside0 (Below w.heap.size w wr)) (fun i _ => l0.length - (intOf i).toNat)
    case atStart => exact ⟨0, rfl, ⟨Nat.zero_le _⟩, ⟨by rw [bytesUp_len]; unfold bytesUp; simpa using HR1.out⟩, HB1⟩
    case round =>
      obtain ⟨n, rfl, HL, HR, HB⟩ := hrel
      by_cases hlt : n < l0.length
      · have c2b0 : decide ((n : Int) < (l0.length : Int)) = true := decide_eq_true (by omega)
        have c2b1 : decide (n < l0.length) = true := decide_eq_true hlt
        have p101 : (0 ≤ (n : Int)) = True := eq_true (by omega)
        have q101 : ((n : Int) < (l0.length : Int)) = True := eq_true (by omega)
        obtain ⟨hx, hf⟩ := Kd.R_cell (0 : Int) HR.out (n : Int) (by omega) (by rw [bytesUp_len]; omega)
        have hx' : wr.cell? ⟨g, n, none⟩ = some (.int .u8 l0[n]) := by
          rw [Int.toNat_natCast] at hx
          rw [hx, ← bytesUp_rd l0 n hlt]; rfl
        rw [Int.toNat_natCast] at hf
        have HP := Aside0.mk (show Kd.R (Kd.int .u8) 5 (wr.setCell ⟨g, n, none⟩ (.int .u8 (byteI l0[n]))) w.heap.size (fun _ => True) (.slice (some ⟨g, 0, none⟩) (bytesUp l0 (n + 1)).length cap) (bytesUp l0 (n + 1)) from by
          have h := (Kd.R_put HR.out (n : Int) (byteI l0[n])).1
          rw [Int.toNat_natCast, bytesUp_succ l0 n hlt] at h
          rw [bytesUp_len] at h ⊢
          exact h)
        have HLT := Aside0.mk hlt
        have HW := Aside0.mk (show wrap64 ((n : Int) + 1) = ((n + 1 : Nat) : Int) by have := HM.out; unfold wrap64; omega)
        generalize l0[n] = x at hx' HP
        clear hlt hx
        go_wp2_with fail
        refine (HBC.out _ _).mono ?_
        rintro e w3 ⟨rfl, ⟨nd, rfl⟩⟩
        go_wp2
        go_roundw
        case rel => exact ⟨n + 1, by first | (rw [HW.out]; done) | rfl, ⟨HLT.out⟩, HP, ⟨below_set (pw_below_drewN HB.out nd) HG.out⟩⟩
        case measure => have := HLT.out; (try rw [HW.out]); simp [intOf]; omega
      · have c2b0 : decide ((n : Int) < (l0.length : Int)) = false := decide_eq_false (by omega)
        have c2b1 : decide (n < l0.length) = false := decide_eq_false hlt
        have HE := Aside0.mk (show bytesUp l0 n = l0.map byteI from by unfold bytesUp; rw [List.take_of_length_le (by omega), List.drop_of_length_le (by omega), List.append_nil])
        clear hlt
        go_wp2
        go_ret
        exact ⟨_, rfl, by have h := HR.out; rw [bytesUp_len] at h; rw [← HE.out]; exact h, HB.out⟩
end Go.Proofs.Ytkpfnhkfecpefaa.Pat
