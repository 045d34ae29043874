/- Functions of the translation and what they come to: laid by a program of this session (xprint.py) beside contracts proved by hand. No condition. -/
import Derived.Test.YtaegjpabkkoleaaPFoldRawx0
namespace Go.Proofs.Ytaegjpabkkoleaa.PFoldRaw
open Go.RowKit Go.Proofs.YtaegjpabkkoleaaW.PrintWords Go.Proofs.YtaegjpabkkoleaaW.PrintLast Go.Proofs.YtaegjpabkkoleaaW.PrintMore
attribute [local go_sem] max2_int min2_int max_two min_two max_three min_three max_four min_four   -- for this text's walks alone
set_option linter.unusedVariables false
set_option linter.unusedSimpArgs false

/-! ### fold_Byte: function 13 -/
def fold_Byte.f (a0 : Int) : Option (Int) := if 65 ≤ a0 then (if a0 ≤ 90 then (some ((((a0 + 97) % 256) - 65) % 256)) else (some a0)) else (some a0)
set_option maxHeartbeats 8000000 in
set_option maxRecDepth 100000 in
theorem fold_Byte.calls (a0 : Int) (r : Int) (w : World) (h : fold_Byte.f a0 = some r) :
    Calls Try.prog 13 #[.int .u8 a0] w fun e w' => e = .returned (.int .u8 r) ∧ Drawn0 w w' := by
  have H : (if 65 ≤ a0 then (if a0 ≤ 90 then (some ((((a0 + 97) % 256) - 65) % 256)) else (some a0)) else (some a0)) = some r := h
  clear h
  by_cases c2 : 65 ≤ a0
  · rw [if_pos c2] at H
    have c2b0 : decide (65 ≤ a0) = true := decide_eq_true c2
    clear c2
    by_cases c3 : a0 ≤ 90
    · rw [if_pos c3] at H
      have c3b0 : decide (a0 ≤ 90) = true := decide_eq_true c3
      clear c3
      obtain rfl := Option.some.inj H
      go_enter Try.func13, Try.ntmps13
      go_wp2
      go_ret
      exact ⟨by first | rfl | (simp; done) | (simp [*]; done) | (simp; exact (by intro a b; cases a <;> cases b <;> rfl : ∀ a b : Bool, (a == b) = (!(a != b))) _ _), by repeat (first | exact Drawn0.refl _ | apply Drawn0.step)⟩
    · rw [if_neg c3] at H
      have c3b0 : decide (a0 ≤ 90) = false := decide_eq_false c3
      clear c3
      obtain rfl := Option.some.inj H
      go_enter Try.func13, Try.ntmps13
      go_wp2
      go_ret
      exact ⟨by first | rfl | (simp; done) | (simp [*]; done) | (simp; exact (by intro a b; cases a <;> cases b <;> rfl : ∀ a b : Bool, (a == b) = (!(a != b))) _ _), by repeat (first | exact Drawn0.refl _ | apply Drawn0.step)⟩
  · rw [if_neg c2] at H
    have c2b0 : decide (65 ≤ a0) = false := decide_eq_false c2
    clear c2
    obtain rfl := Option.some.inj H
    go_enter Try.func13, Try.ntmps13
    go_wp2
    go_ret
    exact ⟨by first | rfl | (simp; done) | (simp [*]; done) | (simp; exact (by intro a b; cases a <;> cases b <;> rfl : ∀ a b : Bool, (a == b) = (!(a != b))) _ _), by repeat (first | exact Drawn0.refl _ | apply Drawn0.step)⟩

-- NOT PRINTED: function 29 (slices_IndexFunc_byte_byte)

-- NOT PRINTED: function 26 (slices_ContainsFunc_byte_byte)

def upB (c : Int) : Bool := decide (65 ≤ c) && decide (c ≤ 90)
def byteI (c : Int) : Int := if upB c = true then c + 32 else c
theorem byte_f (c : Int) : fold_Byte.f c = some (byteI c) := by
  unfold fold_Byte.f byteI upB
  by_cases h : 65 ≤ c
  · by_cases k : c ≤ 90
    · simp only [h, k, if_true, decide_true, Bool.and_self]
      congr 1
      omega
    · simp [h, k]
  · simp [h]
theorem byte_ne (c : Int) : (c != byteI c) = upB c := by
  unfold byteI
  cases h : upB c
  · simp
  · simp only [if_true, bne_iff_ne]; omega
set_option maxHeartbeats 8000000 in
set_option maxRecDepth 100000 in
theorem fix1_calls (c : Int) (w : World) :
    Calls Try.prog 27 #[.int .u8 c] w fun e w' => e = .returned (.bool (upB c)) ∧ Drawn0 w w' := by
  have HC := Aside0.mk (fun w => fold_Byte.calls c (byteI c) w (byte_f c))
  have HE := Aside0.mk (byte_ne c)
  go_enter Try.func27, Try.ntmps27
  go_wp2_with fail
  refine (HC.out _).mono ?_
  rintro e w1 ⟨rfl, ⟨nd, rfl⟩⟩
  go_wp2
  go_ret
  exact ⟨by rw [HE.out]; rfl, by repeat (first | exact Drawn0.refl _ | apply Drawn0.step)⟩
def anyUp (l : List Int) : Bool := l.any upB
theorem anyUp_drop (l : List Int) (n : Nat) (h : n < l.length) : anyUp (l.drop n) = (upB l[n] || anyUp (l.drop (n + 1))) := by
  unfold anyUp; rw [List.drop_eq_getElem_cons h, List.any_cons]
theorem rd_n (l : List Int) (n : Nat) (h : n < l.length) : rd l (n : Int) = l[n] := by
  unfold rd; rw [Int.toNat_natCast, List.getD_eq_getElem?_getD, List.getElem?_eq_getElem h]; rfl
set_option maxHeartbeats 8000000 in
set_option maxRecDepth 100000 in
theorem index_calls (A0 : Option Addr) (c0 : Nat) (l0 : List Int) (w : World) (hr0 : Kd.C (Kd.int .u8) w A0 l0.length l0) (hc0 : l0.length ≤ c0) :
    Calls Try.prog 29 #[.slice A0 l0.length c0, .func (.func 27) #[] #[]] w fun e w' => ∃ i : Int, e = .returned (.int .i64 i) ∧ decide (0 ≤ i) = anyUp l0 ∧ Drawn0 w w' := by
  have HR0 := Aside0.mk hr0
  have HC0 := Aside0.mk hc0
  have hm : l0.length ≤ 9223372036854775807 := hr0.2.1
  have HM := Aside0.mk hm
  clear hr0 hc0 hm
  go_enter Try.func29, Try.ntmps29
  go_wp2
  go_loopw [8] (fun v8 wr => ∃ n : Nat, v8 = .int .i64 (n : Int) ∧ Aside0 (n ≤ l0.length ∧ anyUp l0 = anyUp (l0.drop n)) ∧ Aside0 (Drawn0 w wr)) (fun i _ => l0.length - (intOf i).toNat)
  case atStart => exact ⟨0, rfl, ⟨Nat.zero_le _, rfl⟩, ⟨Drawn0.refl _⟩⟩
  case round =>
    obtain ⟨n, rfl, HJ, HD0⟩ := hrel
    have HRw := Aside0.mk (show Kd.C (Kd.int .u8) wr A0 l0.length l0 from by obtain ⟨m, hm⟩ := HD0.out.out; rw [hm]; exact Kd.C_drewN HR0.out m)
    by_cases hlt : n < l0.length
    · have c2b0 : decide ((n : Int) < (l0.length : Int)) = true := decide_eq_true (by omega)
      have p101 : 0 ≤ (n : Int) := by omega
      have q101 : (n : Int) < (l0.length : Int) := by omega
      obtain ⟨ad101, e101, hx101_0⟩ := Kd.at_int HRw.out (n : Int) p101 q101
      cases e101
      rw [Int.toNat_natCast] at hx101_0
      replace p101 := eq_true p101
      replace q101 := eq_true q101
      have hd := anyUp_drop l0 n hlt
      rw [← rd_n l0 n hlt] at hd
      have hw : wrap64 ((n : Int) + 1) = ((n + 1 : Nat) : Int) := by have := HM.out; unfold wrap64; omega
      have HW := Aside0.mk hw
      have HD := Aside0.mk hd
      have HL := Aside0.mk hlt
      clear hd hw hlt
      have hc := Aside0.mk (fun w => fix1_calls (rd l0 (n : Int)) w)
      cases hu : upB (rd l0 (n : Int))
      · have HU := Aside0.mk hu
        rw [hu] at hc
        clear hu
        go_wp2_with fail
        refine (hc.out _).mono ?_
        rintro e w1 ⟨rfl, ⟨nd, rfl⟩⟩
        go_wp2
        go_roundw
        case rel => exact ⟨n + 1, by rw [HW.out], ⟨HL.out, by rw [HJ.out.2, HD.out, HU.out]; rfl⟩, ⟨by repeat (first | exact HD0.out | apply Drawn0.step)⟩⟩
        case measure => have := HL.out; rw [HW.out]; simp [intOf]; omega
      · have HU := Aside0.mk hu
        rw [hu] at hc
        clear hu
        go_wp2_with fail
        refine (hc.out _).mono ?_
        rintro e w1 ⟨rfl, ⟨nd, rfl⟩⟩
        go_wp2
        go_ret
        exact ⟨_, rfl, by rw [HJ.out.2, HD.out, HU.out]; simp, by repeat (first | exact HD0.out | apply Drawn0.step)⟩
    · have c2b0 : decide ((n : Int) < (l0.length : Int)) = false := decide_eq_false (by omega)
      have c2b1 : decide (n < l0.length) = false := decide_eq_false hlt
      have HL := Aside0.mk hlt
      clear hlt
      go_wp2
      go_ret
      exact ⟨_, rfl, by rw [HJ.out.2, List.drop_of_length_le (by have := HL.out; omega)]; rfl, by repeat (first | exact HD0.out | apply Drawn0.step)⟩
set_option maxHeartbeats 8000000 in
set_option maxRecDepth 100000 in
theorem contains_calls (A0 : Option Addr) (c0 : Nat) (l0 : List Int) (w : World) (hr0 : Kd.C (Kd.int .u8) w A0 l0.length l0) (hc0 : l0.length ≤ c0) :
    Calls Try.prog 26 #[.slice A0 l0.length c0, .func (.func 27) #[] #[]] w fun e w' => e = .returned (.bool (anyUp l0)) ∧ Drawn0 w w' := by
  have HC := Aside0.mk (index_calls A0 c0 l0 w hr0 hc0)
  clear hr0 hc0
  go_enter Try.func26, Try.ntmps26
  go_wp2_with fail
  refine HC.out.mono ?_
  rintro e w1 ⟨i, rfl, hi, ⟨nd, rfl⟩⟩
  have HI := Aside0.mk hi
  clear hi
  go_wp2
  go_ret
  exact ⟨by rw [← HI.out]; rfl, by repeat (first | exact Drawn0.refl _ | apply Drawn0.step)⟩
def fold_Fixed.f (l0 : List Int) : Option Bool := some (!anyUp l0)
set_option maxHeartbeats 8000000 in
set_option maxRecDepth 100000 in
theorem fold_Fixed.calls (A0 : Option Addr) (c0 : Nat) (l0 : List Int) (r : Bool) (w : World) (hr0 : Kd.C (Kd.int .u8) w A0 l0.length l0) (hc0 : l0.length ≤ c0) (h : fold_Fixed.f l0 = some r) :
    Calls Try.prog 12 #[.slice A0 l0.length c0] w fun e w' => e = .returned (.bool r) ∧ Drawn0 w w' := by
  obtain rfl := Option.some.inj h
  have HC := Aside0.mk (contains_calls A0 c0 l0 w hr0 hc0)
  clear hr0 hc0 h
  go_enter Try.func12, Try.ntmps12
  go_wp2_with fail
  refine HC.out.mono ?_
  rintro e w1 ⟨rfl, ⟨nd, rfl⟩⟩
  go_wp2
  go_ret
  exact ⟨rfl, by repeat (first | exact Drawn0.refl _ | apply Drawn0.step)⟩

def slices_Clone_byte_byte.f (l0 : List Int) : Option (List Int) := if l0.length < 140737488355328 then some l0 else none
set_option maxHeartbeats 8000000 in
set_option maxRecDepth 100000 in
theorem slices_Clone_byte_byte.calls (A0 : Option Addr) (c0 : Nat) (l0 : List Int) (r : List Int) (w : World) (hr0 : Kd.C (Kd.int .u8) w A0 l0.length l0) (hc0 : l0.length ≤ c0) (h : slices_Clone_byte_byte.f l0 = some r) :
    Calls Try.prog 25 #[.slice A0 l0.length c0] w fun e w' => ∃ v0_ : Value, e = .returned v0_ ∧ Kd.R (Kd.int .u8) 5 w' w.heap.size (fun _ => True) v0_ r ∧ Below w.heap.size w w' := by
  unfold slices_Clone_byte_byte.f at h
  by_cases hl : l0.length < 140737488355328
  · rw [if_pos hl] at h
    obtain rfl := Option.some.inj h
    have HR := Aside0.mk hr0
    cases A0 with
    | none =>
      have h0 : l0 = [] := by
        rcases Nat.eq_zero_or_pos l0.length with h | h
        · exact List.length_eq_zero_iff.mp h
        · obtain ⟨ad, e, _⟩ := hr0.2.2 h
          cases e
      subst h0
      clear hr0 hc0 hl h
      have heq := Lib.run_eql_slice_nil (P := Try.prog) w 22 5 none 0 c0 0 0 Try.underlying22
      go_enter Try.func25, Try.ntmps25
      go_wp2
      go_ret
      exact ⟨_, rfl, Kd.R_nil _ _ _ _ _, Below.refl _ _⟩
    | some ad =>
      clear hr0 h
      have heq := Lib.run_eql_slice_nil (P := Try.prog) w 22 5 (some ad) l0.length c0 0 0 Try.underlying22
      have HO := Aside0.mk (show Kd.R (Kd.int .u8) 5 (w.alloc (.cells #[] 5)) w.heap.size (fun _ => True) (.slice (some ⟨w.heap.size, 0, none⟩) 0 0) [] from
        ⟨fun _ _ => trivial, [], World.ownsRow_lit (base := w.heap.size) (e := 5) (size := 1) w #[] 0 (Nat.le_refl _) (by decide) (by simp), Reps.none _ _⟩)
      have HX := Aside0.mk (Kd.C_alloc HR.out (.cells #[] 5))
      have HB := Aside0.mk (below_alloc (Below.refl w.heap.size w) (.cells #[] 5))
      go_enter Try.func25, Try.ntmps25
      go_wp2_with (at_builtin; refine Kd.R_append_rows (Kd.int .u8) (w0 := w) w.heap.size rfl (.tmp 5) (.tmp 6) 22 5 (.int .u8 0) 1 rfl Try.underlying22 info5 rfl (by decide) (by decide) (.slice (some ⟨w.heap.size, 0, none⟩) 0 0) [] l0 (some ad) l0.length c0 (fun _ => True) (fun _ => False) rfl rfl HO.out HX.out (fun _ _ h => h) (fun _ h => h.elim) (fun _ _ => trivial) HB.out (by simp) (by simpa using Nat.le_of_lt hl) ?_; intro v1 w1 hr1 hb1 hg1 hat1)
      go_ret
      exact ⟨_, rfl, by simpa using hr1, hb1⟩
  · rw [if_neg hl] at h
    cases h

/-- the first ones without case, the others as they were -/
def bytesUp (l : List Int) (n : Nat) : List Int := (l.take n).map byteI ++ l.drop n
theorem bytesUp_len (l : List Int) (n : Nat) : (bytesUp l n).length = l.length := by
  unfold bytesUp; simp; omega
theorem bytesUp_rd (l : List Int) (n : Nat) (h : n < l.length) : rd (bytesUp l n) (n : Int) = l[n] := by
  rw [rd_n _ n (by rw [bytesUp_len]; exact h)]
  unfold bytesUp
  rw [List.getElem_append_right (by simp; omega)]
  simp [show n - min n l.length = 0 by omega]
theorem bytesUp_succ (l : List Int) (n : Nat) (h : n < l.length) : (bytesUp l n).set n (byteI l[n]) = bytesUp l (n + 1) := by
  unfold bytesUp
  have e : ((l.take n).map byteI).length = n := by simp; omega
  rw [List.set_append_right _ _ (by rw [e]; exact Nat.le_refl _), e, Nat.sub_self, List.drop_eq_getElem_cons h, List.set_cons_zero, List.take_succ_eq_append_getElem h, List.map_append, List.append_assoc]
  rfl
set_option maxHeartbeats 8000000 in
set_option maxRecDepth 100000 in
theorem bytes_calls (A0 : Option Addr) (c0 : Nat) (l0 : List Int) (w : World) (hr0 : Kd.C (Kd.int .u8) w A0 l0.length l0) (hc0 : l0.length ≤ c0) (hl : l0.length < 140737488355328) :
    Calls Try.prog 11 #[.slice A0 l0.length c0] w fun e w' => ∃ v0_ : Value, e = .returned v0_ ∧ Kd.R (Kd.int .u8) 5 w' w.heap.size (fun _ => True) v0_ (l0.map byteI) ∧ Below w.heap.size w w' := by
  have HCL := Aside0.mk (slices_Clone_byte_byte.calls A0 c0 l0 l0 w hr0 hc0 (by unfold slices_Clone_byte_byte.f; rw [if_pos hl]))
  have HM := Aside0.mk hl
  have HBC := Aside0.mk (fun (c : Int) (w : World) => fold_Byte.calls c (byteI c) w (byte_f c))
  clear hr0 hc0 hl
  go_enter Try.func11, Try.ntmps11
  go_wp2_with fail
  refine HCL.out.mono ?_
  rintro e w1 ⟨v, rfl, hr, hb⟩
  have HR1 := Aside0.mk hr
  have HB1 := Aside0.mk hb
  clear hr hb HCL
  rcases Nat.eq_zero_or_pos l0.length with h0 | h0
  · obtain ⟨A, c, rfl⟩ := Kd.R_slice HR1.out
    obtain rfl := List.length_eq_zero_iff.mp h0
    clear h0
    go_wp2
    go_loopw [10] (fun v10 wr => v10 = .int .i64 0 ∧ Aside0 (wr = w1)) (fun _ _ => 0)
    case atStart => exact ⟨rfl, ⟨rfl⟩⟩
    case round =>
      obtain ⟨rfl, HW⟩ := hrel
      go_wp2
      go_ret
      exact ⟨_, rfl, by rw [HW.out]; exact HR1.out, by rw [HW.out]; exact HB1.out⟩
  · obtain ⟨g, cap, rfl, hg, hgl, cells, hcl⟩ := Kd.R_form HR1.out h0
    have HG := Aside0.mk hg
    clear hgl hcl hg cells h0
    go_wp2
    go_loopw [10] (fun v10 wr => ∃ n : Nat, v10 = .int .i64 (n : Int) ∧ Aside0 (n ≤ l0.length) ∧ Aside0 (Kd.R (Kd.int .u8) 5 wr w.heap.size (fun _ => True) (.slice (some ⟨g, 0, none⟩) (bytesUp l0 n).length cap) (bytesUp l0 n)) ∧ Aside0 (Below w.heap.size w wr)) (fun i _ => l0.length - (intOf i).toNat)
    case atStart => exact ⟨0, rfl, ⟨Nat.zero_le _⟩, ⟨by rw [bytesUp_len]; unfold bytesUp; simpa using HR1.out⟩, HB1⟩
    case round =>
      obtain ⟨n, rfl, HL, HR, HB⟩ := hrel
      by_cases hlt : n < l0.length
      · have c2b0 : decide ((n : Int) < (l0.length : Int)) = true := decide_eq_true (by omega)
        have c2b1 : decide (n < l0.length) = true := decide_eq_true hlt
        have p101 : (0 ≤ (n : Int)) = True := eq_true (by omega)
        have q101 : ((n : Int) < (l0.length : Int)) = True := eq_true (by omega)
        obtain ⟨hx, hf⟩ := Kd.R_cell (0 : Int) HR.out (n : Int) (by omega) (by rw [bytesUp_len]; omega)
        have hx' : wr.cell? ⟨g, n, none⟩ = some (.int .u8 l0[n]) := by
          rw [Int.toNat_natCast] at hx
          rw [hx, ← bytesUp_rd l0 n hlt]; rfl
        rw [Int.toNat_natCast] at hf
        have HP := Aside0.mk (show Kd.R (Kd.int .u8) 5 (wr.setCell ⟨g, n, none⟩ (.int .u8 (byteI l0[n]))) w.heap.size (fun _ => True) (.slice (some ⟨g, 0, none⟩) (bytesUp l0 (n + 1)).length cap) (bytesUp l0 (n + 1)) from by
          have h := (Kd.R_put HR.out (n : Int) (byteI l0[n])).1
          rw [Int.toNat_natCast, bytesUp_succ l0 n hlt] at h
          rw [bytesUp_len] at h ⊢
          exact h)
        have HLT := Aside0.mk hlt
        have HW := Aside0.mk (show wrap64 ((n : Int) + 1) = ((n + 1 : Nat) : Int) by have := HM.out; unfold wrap64; omega)
        generalize l0[n] = x at hx' HP
        clear hlt hx
        go_wp2_with fail
        refine (HBC.out _ _).mono ?_
        rintro e w3 ⟨rfl, ⟨nd, rfl⟩⟩
        go_wp2
        go_roundw
        case rel => exact ⟨n + 1, by first | (rw [HW.out]; done) | rfl, ⟨HLT.out⟩, HP, ⟨below_set (pw_below_drewN HB.out nd) HG.out⟩⟩
        case measure => have := HLT.out; (try rw [HW.out]); simp [intOf]; omega
      · have c2b0 : decide ((n : Int) < (l0.length : Int)) = false := decide_eq_false (by omega)
        have c2b1 : decide (n < l0.length) = false := decide_eq_false hlt
        have HE := Aside0.mk (show bytesUp l0 n = l0.map byteI from by unfold bytesUp; rw [List.take_of_length_le (by omega), List.drop_of_length_le (by omega), List.append_nil])
        clear hlt
        go_wp2
        go_ret
        exact ⟨_, rfl, by have h := HR.out; rw [bytesUp_len] at h; rw [← HE.out]; exact h, HB.out⟩
def fold_Bytes.f (l0 : List Int) : Option (List Int) := if l0.length < 140737488355328 then some (l0.map byteI) else none
theorem fold_Bytes.calls (A0 : Option Addr) (c0 : Nat) (l0 : List Int) (r : List Int) (w : World) (hr0 : Kd.C (Kd.int .u8) w A0 l0.length l0) (hc0 : l0.length ≤ c0) (h : fold_Bytes.f l0 = some r) :
    Calls Try.prog 11 #[.slice A0 l0.length c0] w fun e w' => ∃ v0_ : Value, e = .returned v0_ ∧ Kd.R (Kd.int .u8) 5 w' w.heap.size (fun _ => True) v0_ r ∧ Below w.heap.size w w' := by
  unfold fold_Bytes.f at h
  by_cases hl : l0.length < 140737488355328
  · rw [if_pos hl] at h
    obtain rfl := Option.some.inj h
    exact bytes_calls A0 c0 l0 w hr0 hc0 hl
  · rw [if_neg hl] at h
    cases h

/-! ### fold_Word: function 15 -/
def fold_Word.f (a0 : Int) : Option (Bool) := (fold_Byte.f a0).bind fun t101 => (if 97 ≤ t101 then (if t101 ≤ 122 then (some true) else (if 48 ≤ t101 then (if t101 ≤ 57 then (some true) else (some (t101 == 95))) else (some (t101 == 95)))) else (if 48 ≤ t101 then (if t101 ≤ 57 then (some true) else (some (t101 == 95))) else (some (t101 == 95))))
set_option maxHeartbeats 8000000 in
set_option maxRecDepth 100000 in
theorem fold_Word.calls (a0 : Int) (r : Bool) (w : World) (h : fold_Word.f a0 = some r) :
    Calls Try.prog 15 #[.int .u8 a0] w fun e w' => e = .returned (.bool r) ∧ Drawn0 w w' := by
  have H : ((fold_Byte.f a0).bind fun t101 => (if 97 ≤ t101 then (if t101 ≤ 122 then (some true) else (if 48 ≤ t101 then (if t101 ≤ 57 then (some true) else (some (t101 == 95))) else (some (t101 == 95)))) else (if 48 ≤ t101 then (if t101 ≤ 57 then (some true) else (some (t101 == 95))) else (some (t101 == 95))))) = some r := h
  clear h
  replace H := Option.bind_eq_some_iff.mp H
  obtain ⟨t101, A20, H⟩ := H
  replace H : (if 97 ≤ t101 then (if t101 ≤ 122 then (some true) else (if 48 ≤ t101 then (if t101 ≤ 57 then (some true) else (some (t101 == 95))) else (some (t101 == 95)))) else (if 48 ≤ t101 then (if t101 ≤ 57 then (some true) else (some (t101 == 95))) else (some (t101 == 95)))) = some r := H
  have A2 := Aside0.mk A20
  clear A20
  by_cases c3 : 97 ≤ t101
  · rw [if_pos c3] at H
    have c3b0 : decide (97 ≤ t101) = true := decide_eq_true c3
    clear c3
    by_cases c4 : t101 ≤ 122
    · rw [if_pos c4] at H
      have c4b0 : decide (t101 ≤ 122) = true := decide_eq_true c4
      clear c4
      obtain rfl := Option.some.inj H
      go_enter Try.func15, Try.ntmps15
      go_wp2_with (first | ((with_reducible refine gate_callee (f := 13) rfl ?_); refine goesL_ (some 4) rfl rfl Try.func13 (by kernel_rfl) rfl #[.int .u8 a0] rfl (by (try simp only [List.map_toArray, List.map_cons, List.map_nil]); first | done | rfl | (simp only [List.length_drop, List.length_take]; rfl)) ?_; (with_reducible refine (fold_Byte.calls a0 t101 _ A2.out).mono ?_); rintro e w' ⟨rfl, ⟨nd, rfl⟩⟩; refine ⟨_, rfl, ?_⟩))
      go_ret
      exact ⟨by first | rfl | (simp; done) | (simp [*]; done) | (simp; exact (by intro a b; cases a <;> cases b <;> rfl : ∀ a b : Bool, (a == b) = (!(a != b))) _ _), by repeat (first | exact Drawn0.refl _ | apply Drawn0.step)⟩
    · rw [if_neg c4] at H
      have c4b0 : decide (t101 ≤ 122) = false := decide_eq_false c4
      clear c4
      by_cases c5 : 48 ≤ t101
      · rw [if_pos c5] at H
        have c5b0 : decide (48 ≤ t101) = true := decide_eq_true c5
        clear c5
        by_cases c6 : t101 ≤ 57
        · rw [if_pos c6] at H
          have c6b0 : decide (t101 ≤ 57) = true := decide_eq_true c6
          clear c6
          obtain rfl := Option.some.inj H
          go_enter Try.func15, Try.ntmps15
          go_wp2_with (first | ((with_reducible refine gate_callee (f := 13) rfl ?_); refine goesL_ (some 4) rfl rfl Try.func13 (by kernel_rfl) rfl #[.int .u8 a0] rfl (by (try simp only [List.map_toArray, List.map_cons, List.map_nil]); first | done | rfl | (simp only [List.length_drop, List.length_take]; rfl)) ?_; (with_reducible refine (fold_Byte.calls a0 t101 _ A2.out).mono ?_); rintro e w' ⟨rfl, ⟨nd, rfl⟩⟩; refine ⟨_, rfl, ?_⟩))
          go_ret
          exact ⟨by first | rfl | (simp; done) | (simp [*]; done) | (simp; exact (by intro a b; cases a <;> cases b <;> rfl : ∀ a b : Bool, (a == b) = (!(a != b))) _ _), by repeat (first | exact Drawn0.refl _ | apply Drawn0.step)⟩
        · rw [if_neg c6] at H
          have c6b0 : decide (t101 ≤ 57) = false := decide_eq_false c6
          clear c6
          obtain rfl := Option.some.inj H
          go_enter Try.func15, Try.ntmps15
          go_wp2_with (first | ((with_reducible refine gate_callee (f := 13) rfl ?_); refine goesL_ (some 4) rfl rfl Try.func13 (by kernel_rfl) rfl #[.int .u8 a0] rfl (by (try simp only [List.map_toArray, List.map_cons, List.map_nil]); first | done | rfl | (simp only [List.length_drop, List.length_take]; rfl)) ?_; (with_reducible refine (fold_Byte.calls a0 t101 _ A2.out).mono ?_); rintro e w' ⟨rfl, ⟨nd, rfl⟩⟩; refine ⟨_, rfl, ?_⟩))
          go_ret
          exact ⟨by first | rfl | (simp; done) | (simp [*]; done) | (simp; exact (by intro a b; cases a <;> cases b <;> rfl : ∀ a b : Bool, (a == b) = (!(a != b))) _ _), by repeat (first | exact Drawn0.refl _ | apply Drawn0.step)⟩
      · rw [if_neg c5] at H
        have c5b0 : decide (48 ≤ t101) = false := decide_eq_false c5
        clear c5
        obtain rfl := Option.some.inj H
        go_enter Try.func15, Try.ntmps15
        go_wp2_with (first | ((with_reducible refine gate_callee (f := 13) rfl ?_); refine goesL_ (some 4) rfl rfl Try.func13 (by kernel_rfl) rfl #[.int .u8 a0] rfl (by (try simp only [List.map_toArray, List.map_cons, List.map_nil]); first | done | rfl | (simp only [List.length_drop, List.length_take]; rfl)) ?_; (with_reducible refine (fold_Byte.calls a0 t101 _ A2.out).mono ?_); rintro e w' ⟨rfl, ⟨nd, rfl⟩⟩; refine ⟨_, rfl, ?_⟩))
        go_ret
        exact ⟨by first | rfl | (simp; done) | (simp [*]; done) | (simp; exact (by intro a b; cases a <;> cases b <;> rfl : ∀ a b : Bool, (a == b) = (!(a != b))) _ _), by repeat (first | exact Drawn0.refl _ | apply Drawn0.step)⟩
  · rw [if_neg c3] at H
    have c3b0 : decide (97 ≤ t101) = false := decide_eq_false c3
    clear c3
    by_cases c7 : 48 ≤ t101
    · rw [if_pos c7] at H
      have c7b0 : decide (48 ≤ t101) = true := decide_eq_true c7
      clear c7
      by_cases c8 : t101 ≤ 57
      · rw [if_pos c8] at H
        have c8b0 : decide (t101 ≤ 57) = true := decide_eq_true c8
        clear c8
        obtain rfl := Option.some.inj H
        go_enter Try.func15, Try.ntmps15
        go_wp2_with (first | ((with_reducible refine gate_callee (f := 13) rfl ?_); refine goesL_ (some 4) rfl rfl Try.func13 (by kernel_rfl) rfl #[.int .u8 a0] rfl (by (try simp only [List.map_toArray, List.map_cons, List.map_nil]); first | done | rfl | (simp only [List.length_drop, List.length_take]; rfl)) ?_; (with_reducible refine (fold_Byte.calls a0 t101 _ A2.out).mono ?_); rintro e w' ⟨rfl, ⟨nd, rfl⟩⟩; refine ⟨_, rfl, ?_⟩))
        go_ret
        exact ⟨by first | rfl | (simp; done) | (simp [*]; done) | (simp; exact (by intro a b; cases a <;> cases b <;> rfl : ∀ a b : Bool, (a == b) = (!(a != b))) _ _), by repeat (first | exact Drawn0.refl _ | apply Drawn0.step)⟩
      · rw [if_neg c8] at H
        have c8b0 : decide (t101 ≤ 57) = false := decide_eq_false c8
        clear c8
        obtain rfl := Option.some.inj H
        go_enter Try.func15, Try.ntmps15
        go_wp2_with (first | ((with_reducible refine gate_callee (f := 13) rfl ?_); refine goesL_ (some 4) rfl rfl Try.func13 (by kernel_rfl) rfl #[.int .u8 a0] rfl (by (try simp only [List.map_toArray, List.map_cons, List.map_nil]); first | done | rfl | (simp only [List.length_drop, List.length_take]; rfl)) ?_; (with_reducible refine (fold_Byte.calls a0 t101 _ A2.out).mono ?_); rintro e w' ⟨rfl, ⟨nd, rfl⟩⟩; refine ⟨_, rfl, ?_⟩))
        go_ret
        exact ⟨by first | rfl | (simp; done) | (simp [*]; done) | (simp; exact (by intro a b; cases a <;> cases b <;> rfl : ∀ a b : Bool, (a == b) = (!(a != b))) _ _), by repeat (first | exact Drawn0.refl _ | apply Drawn0.step)⟩
    · rw [if_neg c7] at H
      have c7b0 : decide (48 ≤ t101) = false := decide_eq_false c7
      clear c7
      obtain rfl := Option.some.inj H
      go_enter Try.func15, Try.ntmps15
      go_wp2_with (first | ((with_reducible refine gate_callee (f := 13) rfl ?_); refine goesL_ (some 4) rfl rfl Try.func13 (by kernel_rfl) rfl #[.int .u8 a0] rfl (by (try simp only [List.map_toArray, List.map_cons, List.map_nil]); first | done | rfl | (simp only [List.length_drop, List.length_take]; rfl)) ?_; (with_reducible refine (fold_Byte.calls a0 t101 _ A2.out).mono ?_); rintro e w' ⟨rfl, ⟨nd, rfl⟩⟩; refine ⟨_, rfl, ?_⟩))
      go_ret
      exact ⟨by first | rfl | (simp; done) | (simp [*]; done) | (simp; exact (by intro a b; cases a <;> cases b <;> rfl : ∀ a b : Bool, (a == b) = (!(a != b))) _ _), by repeat (first | exact Drawn0.refl _ | apply Drawn0.step)⟩

/-! ### bits_OnesCount64: function 28 -/
def bits_OnesCount64.f (a0 : Int) : Option (Int) := some (Go.bits .and .i64 (wrap64 (IntKind.u64.wrap ((IntKind.u64.wrap ((IntKind.u64.wrap ((Go.bits .and .u64 (IntKind.u64.wrap (((IntKind.u64.wrap ((Go.bits .and .u64 ((IntKind.u64.wrap ((Go.bits .and .u64 (a0 / 2) 6148914691236517205) + (Go.bits .and .u64 a0 6148914691236517205))) / 4) 3689348814741910323) + (Go.bits .and .u64 (IntKind.u64.wrap ((Go.bits .and .u64 (a0 / 2) 6148914691236517205) + (Go.bits .and .u64 a0 6148914691236517205))) 3689348814741910323))) / 16) + (IntKind.u64.wrap ((Go.bits .and .u64 ((IntKind.u64.wrap ((Go.bits .and .u64 (a0 / 2) 6148914691236517205) + (Go.bits .and .u64 a0 6148914691236517205))) / 4) 3689348814741910323) + (Go.bits .and .u64 (IntKind.u64.wrap ((Go.bits .and .u64 (a0 / 2) 6148914691236517205) + (Go.bits .and .u64 a0 6148914691236517205))) 3689348814741910323))))) 1085102592571150095) + ((Go.bits .and .u64 (IntKind.u64.wrap (((IntKind.u64.wrap ((Go.bits .and .u64 ((IntKind.u64.wrap ((Go.bits .and .u64 (a0 / 2) 6148914691236517205) + (Go.bits .and .u64 a0 6148914691236517205))) / 4) 3689348814741910323) + (Go.bits .and .u64 (IntKind.u64.wrap ((Go.bits .and .u64 (a0 / 2) 6148914691236517205) + (Go.bits .and .u64 a0 6148914691236517205))) 3689348814741910323))) / 16) + (IntKind.u64.wrap ((Go.bits .and .u64 ((IntKind.u64.wrap ((Go.bits .and .u64 (a0 / 2) 6148914691236517205) + (Go.bits .and .u64 a0 6148914691236517205))) / 4) 3689348814741910323) + (Go.bits .and .u64 (IntKind.u64.wrap ((Go.bits .and .u64 (a0 / 2) 6148914691236517205) + (Go.bits .and .u64 a0 6148914691236517205))) 3689348814741910323))))) 1085102592571150095) / 256))) + ((IntKind.u64.wrap ((Go.bits .and .u64 (IntKind.u64.wrap (((IntKind.u64.wrap ((Go.bits .and .u64 ((IntKind.u64.wrap ((Go.bits .and .u64 (a0 / 2) 6148914691236517205) + (Go.bits .and .u64 a0 6148914691236517205))) / 4) 3689348814741910323) + (Go.bits .and .u64 (IntKind.u64.wrap ((Go.bits .and .u64 (a0 / 2) 6148914691236517205) + (Go.bits .and .u64 a0 6148914691236517205))) 3689348814741910323))) / 16) + (IntKind.u64.wrap ((Go.bits .and .u64 ((IntKind.u64.wrap ((Go.bits .and .u64 (a0 / 2) 6148914691236517205) + (Go.bits .and .u64 a0 6148914691236517205))) / 4) 3689348814741910323) + (Go.bits .and .u64 (IntKind.u64.wrap ((Go.bits .and .u64 (a0 / 2) 6148914691236517205) + (Go.bits .and .u64 a0 6148914691236517205))) 3689348814741910323))))) 1085102592571150095) + ((Go.bits .and .u64 (IntKind.u64.wrap (((IntKind.u64.wrap ((Go.bits .and .u64 ((IntKind.u64.wrap ((Go.bits .and .u64 (a0 / 2) 6148914691236517205) + (Go.bits .and .u64 a0 6148914691236517205))) / 4) 3689348814741910323) + (Go.bits .and .u64 (IntKind.u64.wrap ((Go.bits .and .u64 (a0 / 2) 6148914691236517205) + (Go.bits .and .u64 a0 6148914691236517205))) 3689348814741910323))) / 16) + (IntKind.u64.wrap ((Go.bits .and .u64 ((IntKind.u64.wrap ((Go.bits .and .u64 (a0 / 2) 6148914691236517205) + (Go.bits .and .u64 a0 6148914691236517205))) / 4) 3689348814741910323) + (Go.bits .and .u64 (IntKind.u64.wrap ((Go.bits .and .u64 (a0 / 2) 6148914691236517205) + (Go.bits .and .u64 a0 6148914691236517205))) 3689348814741910323))))) 1085102592571150095) / 256))) / 65536))) + ((IntKind.u64.wrap ((IntKind.u64.wrap ((Go.bits .and .u64 (IntKind.u64.wrap (((IntKind.u64.wrap ((Go.bits .and .u64 ((IntKind.u64.wrap ((Go.bits .and .u64 (a0 / 2) 6148914691236517205) + (Go.bits .and .u64 a0 6148914691236517205))) / 4) 3689348814741910323) + (Go.bits .and .u64 (IntKind.u64.wrap ((Go.bits .and .u64 (a0 / 2) 6148914691236517205) + (Go.bits .and .u64 a0 6148914691236517205))) 3689348814741910323))) / 16) + (IntKind.u64.wrap ((Go.bits .and .u64 ((IntKind.u64.wrap ((Go.bits .and .u64 (a0 / 2) 6148914691236517205) + (Go.bits .and .u64 a0 6148914691236517205))) / 4) 3689348814741910323) + (Go.bits .and .u64 (IntKind.u64.wrap ((Go.bits .and .u64 (a0 / 2) 6148914691236517205) + (Go.bits .and .u64 a0 6148914691236517205))) 3689348814741910323))))) 1085102592571150095) + ((Go.bits .and .u64 (IntKind.u64.wrap (((IntKind.u64.wrap ((Go.bits .and .u64 ((IntKind.u64.wrap ((Go.bits .and .u64 (a0 / 2) 6148914691236517205) + (Go.bits .and .u64 a0 6148914691236517205))) / 4) 3689348814741910323) + (Go.bits .and .u64 (IntKind.u64.wrap ((Go.bits .and .u64 (a0 / 2) 6148914691236517205) + (Go.bits .and .u64 a0 6148914691236517205))) 3689348814741910323))) / 16) + (IntKind.u64.wrap ((Go.bits .and .u64 ((IntKind.u64.wrap ((Go.bits .and .u64 (a0 / 2) 6148914691236517205) + (Go.bits .and .u64 a0 6148914691236517205))) / 4) 3689348814741910323) + (Go.bits .and .u64 (IntKind.u64.wrap ((Go.bits .and .u64 (a0 / 2) 6148914691236517205) + (Go.bits .and .u64 a0 6148914691236517205))) 3689348814741910323))))) 1085102592571150095) / 256))) + ((IntKind.u64.wrap ((Go.bits .and .u64 (IntKind.u64.wrap (((IntKind.u64.wrap ((Go.bits .and .u64 ((IntKind.u64.wrap ((Go.bits .and .u64 (a0 / 2) 6148914691236517205) + (Go.bits .and .u64 a0 6148914691236517205))) / 4) 3689348814741910323) + (Go.bits .and .u64 (IntKind.u64.wrap ((Go.bits .and .u64 (a0 / 2) 6148914691236517205) + (Go.bits .and .u64 a0 6148914691236517205))) 3689348814741910323))) / 16) + (IntKind.u64.wrap ((Go.bits .and .u64 ((IntKind.u64.wrap ((Go.bits .and .u64 (a0 / 2) 6148914691236517205) + (Go.bits .and .u64 a0 6148914691236517205))) / 4) 3689348814741910323) + (Go.bits .and .u64 (IntKind.u64.wrap ((Go.bits .and .u64 (a0 / 2) 6148914691236517205) + (Go.bits .and .u64 a0 6148914691236517205))) 3689348814741910323))))) 1085102592571150095) + ((Go.bits .and .u64 (IntKind.u64.wrap (((IntKind.u64.wrap ((Go.bits .and .u64 ((IntKind.u64.wrap ((Go.bits .and .u64 (a0 / 2) 6148914691236517205) + (Go.bits .and .u64 a0 6148914691236517205))) / 4) 3689348814741910323) + (Go.bits .and .u64 (IntKind.u64.wrap ((Go.bits .and .u64 (a0 / 2) 6148914691236517205) + (Go.bits .and .u64 a0 6148914691236517205))) 3689348814741910323))) / 16) + (IntKind.u64.wrap ((Go.bits .and .u64 ((IntKind.u64.wrap ((Go.bits .and .u64 (a0 / 2) 6148914691236517205) + (Go.bits .and .u64 a0 6148914691236517205))) / 4) 3689348814741910323) + (Go.bits .and .u64 (IntKind.u64.wrap ((Go.bits .and .u64 (a0 / 2) 6148914691236517205) + (Go.bits .and .u64 a0 6148914691236517205))) 3689348814741910323))))) 1085102592571150095) / 256))) / 65536))) / 4294967296)))) 127)
set_option maxHeartbeats 8000000 in
set_option maxRecDepth 100000 in
theorem bits_OnesCount64.calls (a0 : Int) (r : Int) (w : World) (h : bits_OnesCount64.f a0 = some r) :
    Calls Try.prog 28 #[.int .u64 a0] w fun e w' => e = .returned (.int .i64 r) ∧ Drawn0 w w' := by
  have H : (some (Go.bits .and .i64 (wrap64 (IntKind.u64.wrap ((IntKind.u64.wrap ((IntKind.u64.wrap ((Go.bits .and .u64 (IntKind.u64.wrap (((IntKind.u64.wrap ((Go.bits .and .u64 ((IntKind.u64.wrap ((Go.bits .and .u64 (a0 / 2) 6148914691236517205) + (Go.bits .and .u64 a0 6148914691236517205))) / 4) 3689348814741910323) + (Go.bits .and .u64 (IntKind.u64.wrap ((Go.bits .and .u64 (a0 / 2) 6148914691236517205) + (Go.bits .and .u64 a0 6148914691236517205))) 3689348814741910323))) / 16) + (IntKind.u64.wrap ((Go.bits .and .u64 ((IntKind.u64.wrap ((Go.bits .and .u64 (a0 / 2) 6148914691236517205) + (Go.bits .and .u64 a0 6148914691236517205))) / 4) 3689348814741910323) + (Go.bits .and .u64 (IntKind.u64.wrap ((Go.bits .and .u64 (a0 / 2) 6148914691236517205) + (Go.bits .and .u64 a0 6148914691236517205))) 3689348814741910323))))) 1085102592571150095) + ((Go.bits .and .u64 (IntKind.u64.wrap (((IntKind.u64.wrap ((Go.bits .and .u64 ((IntKind.u64.wrap ((Go.bits .and .u64 (a0 / 2) 6148914691236517205) + (Go.bits .and .u64 a0 6148914691236517205))) / 4) 3689348814741910323) + (Go.bits .and .u64 (IntKind.u64.wrap ((Go.bits .and .u64 (a0 / 2) 6148914691236517205) + (Go.bits .and .u64 a0 6148914691236517205))) 3689348814741910323))) / 16) + (IntKind.u64.wrap ((Go.bits .and .u64 ((IntKind.u64.wrap ((Go.bits .and .u64 (a0 / 2) 6148914691236517205) + (Go.bits .and .u64 a0 6148914691236517205))) / 4) 3689348814741910323) + (Go.bits .and .u64 (IntKind.u64.wrap ((Go.bits .and .u64 (a0 / 2) 6148914691236517205) + (Go.bits .and .u64 a0 6148914691236517205))) 3689348814741910323))))) 1085102592571150095) / 256))) + ((IntKind.u64.wrap ((Go.bits .and .u64 (IntKind.u64.wrap (((IntKind.u64.wrap ((Go.bits .and .u64 ((IntKind.u64.wrap ((Go.bits .and .u64 (a0 / 2) 6148914691236517205) + (Go.bits .and .u64 a0 6148914691236517205))) / 4) 3689348814741910323) + (Go.bits .and .u64 (IntKind.u64.wrap ((Go.bits .and .u64 (a0 / 2) 6148914691236517205) + (Go.bits .and .u64 a0 6148914691236517205))) 3689348814741910323))) / 16) + (IntKind.u64.wrap ((Go.bits .and .u64 ((IntKind.u64.wrap ((Go.bits .and .u64 (a0 / 2) 6148914691236517205) + (Go.bits .and .u64 a0 6148914691236517205))) / 4) 3689348814741910323) + (Go.bits .and .u64 (IntKind.u64.wrap ((Go.bits .and .u64 (a0 / 2) 6148914691236517205) + (Go.bits .and .u64 a0 6148914691236517205))) 3689348814741910323))))) 1085102592571150095) + ((Go.bits .and .u64 (IntKind.u64.wrap (((IntKind.u64.wrap ((Go.bits .and .u64 ((IntKind.u64.wrap ((Go.bits .and .u64 (a0 / 2) 6148914691236517205) + (Go.bits .and .u64 a0 6148914691236517205))) / 4) 3689348814741910323) + (Go.bits .and .u64 (IntKind.u64.wrap ((Go.bits .and .u64 (a0 / 2) 6148914691236517205) + (Go.bits .and .u64 a0 6148914691236517205))) 3689348814741910323))) / 16) + (IntKind.u64.wrap ((Go.bits .and .u64 ((IntKind.u64.wrap ((Go.bits .and .u64 (a0 / 2) 6148914691236517205) + (Go.bits .and .u64 a0 6148914691236517205))) / 4) 3689348814741910323) + (Go.bits .and .u64 (IntKind.u64.wrap ((Go.bits .and .u64 (a0 / 2) 6148914691236517205) + (Go.bits .and .u64 a0 6148914691236517205))) 3689348814741910323))))) 1085102592571150095) / 256))) / 65536))) + ((IntKind.u64.wrap ((IntKind.u64.wrap ((Go.bits .and .u64 (IntKind.u64.wrap (((IntKind.u64.wrap ((Go.bits .and .u64 ((IntKind.u64.wrap ((Go.bits .and .u64 (a0 / 2) 6148914691236517205) + (Go.bits .and .u64 a0 6148914691236517205))) / 4) 3689348814741910323) + (Go.bits .and .u64 (IntKind.u64.wrap ((Go.bits .and .u64 (a0 / 2) 6148914691236517205) + (Go.bits .and .u64 a0 6148914691236517205))) 3689348814741910323))) / 16) + (IntKind.u64.wrap ((Go.bits .and .u64 ((IntKind.u64.wrap ((Go.bits .and .u64 (a0 / 2) 6148914691236517205) + (Go.bits .and .u64 a0 6148914691236517205))) / 4) 3689348814741910323) + (Go.bits .and .u64 (IntKind.u64.wrap ((Go.bits .and .u64 (a0 / 2) 6148914691236517205) + (Go.bits .and .u64 a0 6148914691236517205))) 3689348814741910323))))) 1085102592571150095) + ((Go.bits .and .u64 (IntKind.u64.wrap (((IntKind.u64.wrap ((Go.bits .and .u64 ((IntKind.u64.wrap ((Go.bits .and .u64 (a0 / 2) 6148914691236517205) + (Go.bits .and .u64 a0 6148914691236517205))) / 4) 3689348814741910323) + (Go.bits .and .u64 (IntKind.u64.wrap ((Go.bits .and .u64 (a0 / 2) 6148914691236517205) + (Go.bits .and .u64 a0 6148914691236517205))) 3689348814741910323))) / 16) + (IntKind.u64.wrap ((Go.bits .and .u64 ((IntKind.u64.wrap ((Go.bits .and .u64 (a0 / 2) 6148914691236517205) + (Go.bits .and .u64 a0 6148914691236517205))) / 4) 3689348814741910323) + (Go.bits .and .u64 (IntKind.u64.wrap ((Go.bits .and .u64 (a0 / 2) 6148914691236517205) + (Go.bits .and .u64 a0 6148914691236517205))) 3689348814741910323))))) 1085102592571150095) / 256))) + ((IntKind.u64.wrap ((Go.bits .and .u64 (IntKind.u64.wrap (((IntKind.u64.wrap ((Go.bits .and .u64 ((IntKind.u64.wrap ((Go.bits .and .u64 (a0 / 2) 6148914691236517205) + (Go.bits .and .u64 a0 6148914691236517205))) / 4) 3689348814741910323) + (Go.bits .and .u64 (IntKind.u64.wrap ((Go.bits .and .u64 (a0 / 2) 6148914691236517205) + (Go.bits .and .u64 a0 6148914691236517205))) 3689348814741910323))) / 16) + (IntKind.u64.wrap ((Go.bits .and .u64 ((IntKind.u64.wrap ((Go.bits .and .u64 (a0 / 2) 6148914691236517205) + (Go.bits .and .u64 a0 6148914691236517205))) / 4) 3689348814741910323) + (Go.bits .and .u64 (IntKind.u64.wrap ((Go.bits .and .u64 (a0 / 2) 6148914691236517205) + (Go.bits .and .u64 a0 6148914691236517205))) 3689348814741910323))))) 1085102592571150095) + ((Go.bits .and .u64 (IntKind.u64.wrap (((IntKind.u64.wrap ((Go.bits .and .u64 ((IntKind.u64.wrap ((Go.bits .and .u64 (a0 / 2) 6148914691236517205) + (Go.bits .and .u64 a0 6148914691236517205))) / 4) 3689348814741910323) + (Go.bits .and .u64 (IntKind.u64.wrap ((Go.bits .and .u64 (a0 / 2) 6148914691236517205) + (Go.bits .and .u64 a0 6148914691236517205))) 3689348814741910323))) / 16) + (IntKind.u64.wrap ((Go.bits .and .u64 ((IntKind.u64.wrap ((Go.bits .and .u64 (a0 / 2) 6148914691236517205) + (Go.bits .and .u64 a0 6148914691236517205))) / 4) 3689348814741910323) + (Go.bits .and .u64 (IntKind.u64.wrap ((Go.bits .and .u64 (a0 / 2) 6148914691236517205) + (Go.bits .and .u64 a0 6148914691236517205))) 3689348814741910323))))) 1085102592571150095) / 256))) / 65536))) / 4294967296)))) 127)) = some r := h
  clear h
  obtain rfl := Option.some.inj H
  go_enter Try.func28, Try.ntmps28
  go_wp2
  go_ret
  exact ⟨by first | rfl | (simp; done) | (simp [*]; done) | (simp; exact (by intro a b; cases a <;> cases b <;> rfl : ∀ a b : Bool, (a == b) = (!(a != b))) _ _), by repeat (first | exact Drawn0.refl _ | apply Drawn0.step)⟩

/-- a set of bytes: its four numbers -/
structure SS where
  a : Int
  b : Int
  c : Int
  d : Int
def SS.val (s : SS) : Value := .agg #[.int .u64 s.a, .int .u64 s.b, .int .u64 s.c, .int .u64 s.d]
def SS.cs (s : SS) : Array Value := #[.int .u64 s.a, .int .u64 s.b, .int .u64 s.c, .int .u64 s.d]
def SS.get (s : SS) (i : Int) : Int := if i = 0 then s.a else if i = 1 then s.b else if i = 2 then s.c else s.d
def SS.set (s : SS) (i v : Int) : SS := if i = 0 then { s with a := v } else if i = 1 then { s with b := v } else if i = 2 then { s with c := v } else { s with d := v }
def hasS (s : SS) (x : Int) : Bool := bits .and .u64 (s.get (x / 64) / 2 ^ (x % 64).toNat) 1 == 1
def withS (s : SS) (x : Int) : SS := s.set (x / 64) (bits .or .u64 (s.get (x / 64)) (IntKind.u64.wrap (2 ^ (x % 64).toNat)))
def unionS (s o : SS) : SS := ⟨bits .or .u64 s.a o.a, bits .or .u64 s.b o.b, bits .or .u64 s.c o.c, bits .or .u64 s.d o.d⟩
theorem info31s : (Try.prog.info? 31).map (·.size) = some 4 := by kernel_rfl
theorem ret_set {tmps : Array Value} {w : World} {p : Tmp} {g : Nat} (s : SS) {fn : Func} (hf : fn.results = #[.cell p 31]) (hp : tmps.getD p undef = .pointer (some ⟨g, 0, none⟩)) (hg : w.heap[g]? = some (.cells s.cs 31 (0, 0))) :
    (results fn tmps).run Try.prog w = .ok s.val w := results_single hf (Vals.cell g 31 s.cs (0, 0) _ hp hg Try.underlying31 rfl info31s Vals.nil)
theorem heap2 (w : World) (o1 o2 : Obj) : ((w.alloc o1).alloc o2).heap[w.heap.size + 1]? = some o2 := by
  have := blk_new (w.alloc o1) o2
  rwa [World.size_alloc] at this
def zeroS : SS := ⟨0, 0, 0, 0⟩
set_option maxHeartbeats 8000000 in
set_option maxRecDepth 100000 in
theorem has_calls (s : SS) (x : Int) (w : World) (h0 : 0 ≤ x) (h1 : x < 256) :
    Calls Try.prog 22 #[s.val, .int .u8 x] w fun e w' => e = .returned (.bool (hasS s x)) ∧ Below w.heap.size w w' := by
  obtain ⟨a, b, c, d⟩ := s
  have hu31 := Try.underlying31
  unfold hasS SS.val
  dsimp only
  have hq : x / 64 = 0 ∨ x / 64 = 1 ∨ x / 64 = 2 ∨ x / 64 = 3 := by omega
  rcases hq with hq | hq | hq | hq
  all_goals
    rw [hq]
    simp only [SS.get, if_true, Int.reduceEq, if_false]
    have HE : Aside0 (h0 = h0) := ⟨rfl⟩
    go_enter Try.func22, Try.ntmps22
    go_wp2
    go_ret
    exact ⟨rfl, by repeat (first | exact Below.refl _ _ | apply below_alloc)⟩
set_option maxHeartbeats 8000000 in
set_option maxRecDepth 100000 in
theorem with_calls (s : SS) (x : Int) (w : World) (h0 : 0 ≤ x) (h1 : x < 256) :
    Calls Try.prog 20 #[s.val, .int .u8 x] w fun e w' => e = .returned (withS s x).val ∧ Below w.heap.size w w' := by
  obtain ⟨a, b, c, d⟩ := s
  have hu31 := Try.underlying31
  unfold withS SS.val
  dsimp only
  have hq : x / 64 = 0 ∨ x / 64 = 1 ∨ x / 64 = 2 ∨ x / 64 = 3 := by omega
  rcases hq with hq | hq | hq | hq
  all_goals
    rw [hq]
    simp only [SS.get, SS.set, if_true, Int.reduceEq, if_false]
    go_enter Try.func20, Try.ntmps20
    go_wp2
    (try simp only [Exit.inBlock, Exit.then])
    refine bodyPost_ret (ret_set ⟨_, _, _, _⟩ rfl rfl (heap2 w _ _)) rfl ?_
    exact ⟨rfl, by repeat (first | exact Below.refl _ _ | apply below_alloc)⟩
/-- a set's four cells written -/
def put4 (w : World) (g : Nat) (s : SS) : World := (((w.setCell ⟨g, 0, none⟩ (.int .u64 s.a)).setCell ⟨g, 1, none⟩ (.int .u64 s.b)).setCell ⟨g, 2, none⟩ (.int .u64 s.c)).setCell ⟨g, 3, none⟩ (.int .u64 s.d)
theorem put4_at {w : World} {g : Nat} {s0 : SS} (h : w.heap[g]? = some (.cells s0.cs 31 (0, 0))) (s : SS) : (put4 w g s).heap[g]? = some (.cells s.cs 31 (0, 0)) := by
  have h1 := blk_set (blk_set (blk_set (blk_set h 0 (.int .u64 s.a)) 1 (.int .u64 s.b)) 2 (.int .u64 s.c)) 3 (.int .u64 s.d)
  exact h1
theorem put4_far {w : World} {g k : Nat} {o : Obj} (h : w.heap[k]? = some o) (hk : k ≠ g) (s : SS) : (put4 w g s).heap[k]? = some o := by
  unfold put4
  rw [Below.heap_setCell _ _ _ _ hk, Below.heap_setCell _ _ _ _ hk, Below.heap_setCell _ _ _ _ hk, Below.heap_setCell _ _ _ _ hk]
  exact h
theorem put4_below {w W : World} {g : Nat} (h : Below w.heap.size w W) (hg : w.heap.size ≤ g) (s : SS) : Below w.heap.size w (put4 W g s) :=
  below_set (below_set (below_set (below_set h hg) hg) hg) hg
def ofS (l : List Int) : SS := l.foldl withS zeroS
theorem of_succ (l : List Int) (n : Nat) (h : n < l.length) : ofS (l.take (n + 1)) = withS (ofS (l.take n)) l[n] := by
  rw [List.take_succ_eq_append_getElem h]; unfold ofS; rw [List.foldl_append]; rfl
set_option maxHeartbeats 8000000 in
set_option maxRecDepth 100000 in
theorem of_calls (A0 : Option Addr) (c0 : Nat) (l0 : List Int) (w : World) (hr0 : Kd.C (Kd.int .u8) w A0 l0.length l0) (hc0 : l0.length ≤ c0) (hb : ∀ x ∈ l0, 0 ≤ x ∧ x < 256) :
    Calls Try.prog 17 #[.slice A0 l0.length c0] w fun e w' => e = .returned (ofS l0).val ∧ Below w.heap.size w w' := by
  have HR0 := Aside0.mk hr0
  have HC0 := Aside0.mk hc0
  have HBY := Aside0.mk hb
  have HM := Aside0.mk (show l0.length ≤ 9223372036854775807 from hr0.2.1)
  have hu31 := Try.underlying31
  clear hr0 hc0 hb
  go_enter Try.func17, Try.ntmps17
  go_wp2
  go_loopw [8] (fun v8 wr => ∃ n : Nat, v8 = .int .i64 (n : Int) ∧ Aside0 (n ≤ l0.length) ∧ Aside0 (wr.heap[w.heap.size + 1]? = some (.cells (ofS (l0.take n)).cs 31 (0, 0))) ∧ Aside0 (wr.heap[w.heap.size]? = some (.cells zeroS.cs 31 (0, 0))) ∧ Aside0 (Below w.heap.size w wr)) (fun i _ => l0.length - (intOf i).toNat)
  case atStart => exact ⟨0, rfl, ⟨Nat.zero_le _⟩, ⟨heap2 w _ _⟩, ⟨blk_alloc (blk_new w _) _⟩, ⟨by repeat (first | exact Below.refl _ _ | apply below_alloc)⟩⟩
  case round =>
    obtain ⟨n, rfl, HL, HS, HO, HB⟩ := hrel
    by_cases hlt : n < l0.length
    · have c2b0 : decide ((n : Int) < (l0.length : Int)) = true := decide_eq_true (by omega)
      have p101 : 0 ≤ (n : Int) := by omega
      have q101 : (n : Int) < (l0.length : Int) := by omega
      have HRw := Aside0.mk (Kd.C_below HR0.out HB.out)
      obtain ⟨ad101, e101, hx101_0⟩ := Kd.at_int HRw.out (n : Int) p101 q101
      cases e101
      rw [Int.toNat_natCast] at hx101_0
      replace p101 := eq_true p101
      replace q101 := eq_true q101
      have hd := of_succ l0 n hlt
      have hx : 0 ≤ rd l0 (n : Int) ∧ rd l0 (n : Int) < 256 := by rw [rd_n l0 n hlt]; exact HBY.out _ (List.getElem_mem hlt)
      rw [← rd_n l0 n hlt] at hd
      have HW := Aside0.mk (show wrap64 ((n : Int) + 1) = ((n + 1 : Nat) : Int) by have := HM.out; unfold wrap64; omega)
      have HD := Aside0.mk hd
      have HL1 := Aside0.mk hlt
      have hc := Aside0.mk (fun w => with_calls (ofS (l0.take n)) (rd l0 (n : Int)) w hx.1 hx.2)
      clear hd hlt hx
      generalize ofS (l0.take n) = s at hc HD HS
      obtain ⟨s', hs'⟩ : ∃ s', s' = withS s (rd l0 (n : Int)) := ⟨_, rfl⟩
      rw [← hs'] at hc HD
      clear hs'
      generalize hxv : rd l0 (n : Int) = xv at hc hx101_0
      clear hxv
      obtain ⟨a, b, c, d⟩ := s
      obtain ⟨a', b', c', d'⟩ := s'
      have k0 : wr.cell? ⟨w.heap.size + 1, 0, none⟩ = some (.int .u64 a) := (blk_cell HS.out 0).trans rfl
      have k1 : wr.cell? ⟨w.heap.size + 1, 1, none⟩ = some (.int .u64 b) := (blk_cell HS.out 1).trans rfl
      have k2 : wr.cell? ⟨w.heap.size + 1, 2, none⟩ = some (.int .u64 c) := (blk_cell HS.out 2).trans rfl
      have k3 : wr.cell? ⟨w.heap.size + 1, 3, none⟩ = some (.int .u64 d) := (blk_cell HS.out 3).trans rfl
      go_wp2_with fail
      refine (hc.out _).mono ?_
      rintro e w3 ⟨rfl, hb3⟩
      have HS3 := Aside0.mk (show w3.heap[w.heap.size + 1]? = some (.cells (SS.cs ⟨a, b, c, d⟩) 31 (0, 0)) from blk_below HS.out hb3)
      have HO3 := Aside0.mk (show w3.heap[w.heap.size]? = some (.cells zeroS.cs 31 (0, 0)) from blk_below HO.out hb3)
      have HB3 := Aside0.mk (below_step HB.out hb3)
      clear k0 k1 k2 k3 hb3 hc hx101_0
      have k0 : w3.cell? ⟨w.heap.size + 1, 0, none⟩ = some (.int .u64 a) := (blk_cell HS3.out 0).trans rfl
      have k1 : w3.cell? ⟨w.heap.size + 1, 1, none⟩ = some (.int .u64 b) := (blk_cell HS3.out 1).trans rfl
      have k2 : w3.cell? ⟨w.heap.size + 1, 2, none⟩ = some (.int .u64 c) := (blk_cell HS3.out 2).trans rfl
      have k3 : w3.cell? ⟨w.heap.size + 1, 3, none⟩ = some (.int .u64 d) := (blk_cell HS3.out 3).trans rfl
      have f0 := blk_frozen HS3.out 0
      have f1 := blk_frozen HS3.out 1
      have f2 := blk_frozen HS3.out 2
      have f3 := blk_frozen HS3.out 3
      unfold SS.val
      dsimp only
      go_wp2
      go_roundw
      case rel => exact ⟨n + 1, by rw [HW.out], ⟨HL1.out⟩, ⟨by rw [HD.out]; exact put4_at HS3.out ⟨a', b', c', d'⟩⟩, ⟨put4_far HO3.out (by omega) ⟨a', b', c', d'⟩⟩, ⟨put4_below HB3.out (by omega) ⟨a', b', c', d'⟩⟩⟩
      case measure => have := HL1.out; rw [HW.out]; simp [intOf]; omega
    · have c2b0 : decide ((n : Int) < (l0.length : Int)) = false := decide_eq_false (by omega)
      have c2b1 : decide (n < l0.length) = false := decide_eq_false hlt
      rw [List.take_of_length_le (by omega)] at HS
      clear hlt
      obtain ⟨s, hs⟩ : ∃ s, s = ofS l0 := ⟨_, rfl⟩
      rw [← hs] at HS
      obtain ⟨a, b, c, d⟩ := s
      have HEQ := Aside0.mk hs
      clear hs
      have k0 : wr.cell? ⟨w.heap.size + 1, 0, none⟩ = some (.int .u64 a) := (blk_cell HS.out 0).trans rfl
      have k1 : wr.cell? ⟨w.heap.size + 1, 1, none⟩ = some (.int .u64 b) := (blk_cell HS.out 1).trans rfl
      have k2 : wr.cell? ⟨w.heap.size + 1, 2, none⟩ = some (.int .u64 c) := (blk_cell HS.out 2).trans rfl
      have k3 : wr.cell? ⟨w.heap.size + 1, 3, none⟩ = some (.int .u64 d) := (blk_cell HS.out 3).trans rfl
      have f0 := blk_frozen HO.out 0
      have f1 := blk_frozen HO.out 1
      have f2 := blk_frozen HO.out 2
      have f3 := blk_frozen HO.out 3
      have o0 : wr.cell? ⟨w.heap.size, 0, none⟩ = some (.int .u64 0) := (blk_cell HO.out 0).trans rfl
      have o1 : wr.cell? ⟨w.heap.size, 1, none⟩ = some (.int .u64 0) := (blk_cell HO.out 1).trans rfl
      have o2 : wr.cell? ⟨w.heap.size, 2, none⟩ = some (.int .u64 0) := (blk_cell HO.out 2).trans rfl
      have o3 : wr.cell? ⟨w.heap.size, 3, none⟩ = some (.int .u64 0) := (blk_cell HO.out 3).trans rfl
      go_wp2
      (try simp only [Exit.inBlock, Exit.then])
      refine bodyPost_ret (ret_set ⟨a, b, c, d⟩ rfl rfl (put4_at HO.out ⟨a, b, c, d⟩)) rfl ?_
      exact ⟨by rw [← HEQ.out], put4_below HB.out (Nat.le_refl _) ⟨a, b, c, d⟩⟩
theorem pop_some (x : Int) : (bits_OnesCount64.f x).isSome = true := by unfold bits_OnesCount64.f; exact Option.isSome_some
def popI (x : Int) : Int := (bits_OnesCount64.f x).get (pop_some x)
theorem pop_f (x : Int) : bits_OnesCount64.f x = some (popI x) := (Option.some_get _).symm
theorem idx0 (a b c d : Int) (w : World) : (Instr.index 31 (.agg #[.int .u64 a, .int .u64 b, .int .u64 c, .int .u64 d]) (.int .i64 0)).run Try.prog w = .ok (.int .u64 a) w := by
  have hu31 := Try.underlying31
  have hu29 := Try.underlying29
  rw [Instr.index]
  go_simp
theorem idx1 (a b c d : Int) (w : World) : (Instr.index 31 (.agg #[.int .u64 a, .int .u64 b, .int .u64 c, .int .u64 d]) (.int .i64 1)).run Try.prog w = .ok (.int .u64 b) w := by
  have hu31 := Try.underlying31
  have hu29 := Try.underlying29
  rw [Instr.index]
  go_simp
theorem idx2 (a b c d : Int) (w : World) : (Instr.index 31 (.agg #[.int .u64 a, .int .u64 b, .int .u64 c, .int .u64 d]) (.int .i64 2)).run Try.prog w = .ok (.int .u64 c) w := by
  have hu31 := Try.underlying31
  have hu29 := Try.underlying29
  rw [Instr.index]
  go_simp
theorem idx3 (a b c d : Int) (w : World) : (Instr.index 31 (.agg #[.int .u64 a, .int .u64 b, .int .u64 c, .int .u64 d]) (.int .i64 3)).run Try.prog w = .ok (.int .u64 d) w := by
  have hu31 := Try.underlying31
  have hu29 := Try.underlying29
  rw [Instr.index]
  go_simp
def lenUp (s : SS) : Nat → Int
  | 0 => 0
  | n + 1 => wrap64 (lenUp s n + popI (s.get n))
def lenS (s : SS) : Int := lenUp s 4
set_option maxHeartbeats 8000000 in
set_option maxRecDepth 100000 in
theorem len_calls (s : SS) (w : World) :
    Calls Try.prog 19 #[s.val] w fun e w' => e = .returned (.int .i64 (lenS s)) ∧ Below w.heap.size w w' := by
  obtain ⟨l, hl⟩ : ∃ l, l = lenS s := ⟨_, rfl⟩
  rw [← hl]
  have HLN := Aside0.mk hl
  clear hl
  have H1 := Aside0.mk (show ∀ n, lenUp s (n + 1) = wrap64 (lenUp s n + popI (s.get n)) from fun _ => rfl)
  have H0 := Aside0.mk (show lenUp s 0 = 0 from rfl)
  unfold lenS at HLN
  generalize lenUp s = L at HLN H1 H0
  obtain ⟨a, b, c, d⟩ := s
  have hu31 := Try.underlying31
  have HP := Aside0.mk (fun (x : Int) (w : World) => bits_OnesCount64.calls x (popI x) w (pop_f x))
  unfold SS.val
  dsimp only
  go_enter Try.func19, Try.ntmps19
  go_wp2
  go_loopw [3, 7] (fun v3 v7 wr => ∃ n : Nat, v7 = .int .i64 (n : Int) ∧ v3 = .int .i64 (L n) ∧ Aside0 (n ≤ 4) ∧ Aside0 (Below w.heap.size w wr)) (fun _ i _ => 4 - (intOf i).toNat)
  case atStart => exact ⟨0, rfl, by rw [H0.out], ⟨by omega⟩, ⟨by repeat (first | exact Below.refl _ _ | apply below_alloc)⟩⟩
  case round =>
    obtain ⟨n, rfl, rfl, HL, HB⟩ := hrel
    have HN1 := Aside0.mk (H1.out n)
    have hc : n = 0 ∨ n = 1 ∨ n = 2 ∨ n = 3 ∨ n = 4 := by have := HL.out; omega
    rcases hc with rfl | rfl | rfl | rfl | rfl
    iterate 4
      · have i0 := idx0 a b c d
        have i1 := idx1 a b c d
        have i2 := idx2 a b c d
        have i3 := idx3 a b c d
        have HN2 := HN1.out
        simp [SS.get] at HN2
        replace HN1 := Aside0.mk HN2
        clear HN2
        go_wp2_with fail
        refine (HP.out _ _).mono ?_
        rintro e w3 ⟨rfl, ⟨nd, rfl⟩⟩
        go_wp2
        go_roundw
        case rel => first | exact ⟨1, rfl, by rw [HN1.out], ⟨by decide⟩, ⟨by repeat (first | exact HB.out | apply pw_below_drewN | apply below_drew1)⟩⟩ | exact ⟨2, rfl, by rw [HN1.out], ⟨by decide⟩, ⟨by repeat (first | exact HB.out | apply pw_below_drewN | apply below_drew1)⟩⟩ | exact ⟨3, rfl, by rw [HN1.out], ⟨by decide⟩, ⟨by repeat (first | exact HB.out | apply pw_below_drewN | apply below_drew1)⟩⟩ | exact ⟨4, rfl, by rw [HN1.out], ⟨by decide⟩, ⟨by repeat (first | exact HB.out | apply pw_below_drewN | apply below_drew1)⟩⟩
        case measure => simp [intOf]
    · go_wp2
      go_ret
      exact ⟨by rw [HLN.out]; rfl, HB.out⟩
/-- the first numbers of the union of two sets, the rest of the first one -/
def mixS (s o : SS) (n : Nat) : SS := ⟨if 0 < n then bits .or .u64 s.a o.a else s.a, if 1 < n then bits .or .u64 s.b o.b else s.b, if 2 < n then bits .or .u64 s.c o.c else s.c, if 3 < n then bits .or .u64 s.d o.d else s.d⟩
set_option maxHeartbeats 8000000 in
set_option maxRecDepth 100000 in
theorem union_calls (s o : SS) (w : World) :
    Calls Try.prog 18 #[s.val, o.val] w fun e w' => e = .returned (unionS s o).val ∧ Below w.heap.size w w' := by
  obtain ⟨a, b, c, d⟩ := s
  obtain ⟨a', b', c', d'⟩ := o
  have hu31 := Try.underlying31
  unfold SS.val
  dsimp only
  go_enter Try.func18, Try.ntmps18
  go_wp2
  go_loopw [8] (fun v8 wr => ∃ n : Nat, v8 = .int .i64 (n : Int) ∧ Aside0 (n ≤ 4) ∧ Aside0 (wr.heap[w.heap.size]? = some (.cells (mixS ⟨a, b, c, d⟩ ⟨a', b', c', d'⟩ n).cs 31 (0, 0))) ∧ Aside0 (wr.heap[w.heap.size + 1 + 1]? = some (.cells zeroS.cs 31 (0, 0))) ∧ Aside0 (Below w.heap.size w wr)) (fun i _ => 4 - (intOf i).toNat)
  case atStart => exact ⟨0, rfl, ⟨by omega⟩, ⟨blk_alloc (blk_alloc (blk_new w _) _) _⟩, ⟨by have := heap2 (w.alloc (.cells #[.int .u64 a, .int .u64 b, .int .u64 c, .int .u64 d] 31)) (.cells #[.int .u64 a', .int .u64 b', .int .u64 c', .int .u64 d'] 31) (.cells zeroS.cs 31); rwa [World.size_alloc] at this⟩, ⟨by repeat (first | exact Below.refl _ _ | apply below_alloc)⟩⟩
  case round =>
    obtain ⟨n, rfl, HL, HS, HO, HB⟩ := hrel
    have hc : n = 0 ∨ n = 1 ∨ n = 2 ∨ n = 3 ∨ n = 4 := by have := HL.out; omega
    rcases hc with rfl | rfl | rfl | rfl | rfl
    · have i0 := idx0 a' b' c' d'
      have HS2 := Aside0.mk (show wr.heap[w.heap.size]? = some (.cells #[(.int .u64 a), (.int .u64 b), (.int .u64 c), (.int .u64 d)] 31 (0, 0)) from HS.out)
      have k0 : wr.cell? ⟨w.heap.size, 0, none⟩ = some (.int .u64 a) := (blk_cell HS2.out 0).trans rfl
      have f0 := blk_frozen HS2.out 0
      go_wp2
      go_roundw
      case rel => exact ⟨1, rfl, ⟨by decide⟩, ⟨(blk_set HS2.out 0 _).trans rfl⟩, ⟨blk_far HO.out (by show w.heap.size + 1 + 1 ≠ w.heap.size; omega) _⟩, ⟨below_set HB.out (Nat.le_refl _)⟩⟩
      case measure => simp [intOf]
    · have i1 := idx1 a' b' c' d'
      have HS2 := Aside0.mk (show wr.heap[w.heap.size]? = some (.cells #[(.int .u64 (bits .or .u64 a a')), (.int .u64 b), (.int .u64 c), (.int .u64 d)] 31 (0, 0)) from HS.out)
      have k0 : wr.cell? ⟨w.heap.size, 1, none⟩ = some (.int .u64 b) := (blk_cell HS2.out 1).trans rfl
      have f0 := blk_frozen HS2.out 1
      go_wp2
      go_roundw
      case rel => exact ⟨2, rfl, ⟨by decide⟩, ⟨(blk_set HS2.out 1 _).trans rfl⟩, ⟨blk_far HO.out (by show w.heap.size + 1 + 1 ≠ w.heap.size; omega) _⟩, ⟨below_set HB.out (Nat.le_refl _)⟩⟩
      case measure => simp [intOf]
    · have i2 := idx2 a' b' c' d'
      have HS2 := Aside0.mk (show wr.heap[w.heap.size]? = some (.cells #[(.int .u64 (bits .or .u64 a a')), (.int .u64 (bits .or .u64 b b')), (.int .u64 c), (.int .u64 d)] 31 (0, 0)) from HS.out)
      have k0 : wr.cell? ⟨w.heap.size, 2, none⟩ = some (.int .u64 c) := (blk_cell HS2.out 2).trans rfl
      have f0 := blk_frozen HS2.out 2
      go_wp2
      go_roundw
      case rel => exact ⟨3, rfl, ⟨by decide⟩, ⟨(blk_set HS2.out 2 _).trans rfl⟩, ⟨blk_far HO.out (by show w.heap.size + 1 + 1 ≠ w.heap.size; omega) _⟩, ⟨below_set HB.out (Nat.le_refl _)⟩⟩
      case measure => simp [intOf]
    · have i3 := idx3 a' b' c' d'
      have HS2 := Aside0.mk (show wr.heap[w.heap.size]? = some (.cells #[(.int .u64 (bits .or .u64 a a')), (.int .u64 (bits .or .u64 b b')), (.int .u64 (bits .or .u64 c c')), (.int .u64 d)] 31 (0, 0)) from HS.out)
      have k0 : wr.cell? ⟨w.heap.size, 3, none⟩ = some (.int .u64 d) := (blk_cell HS2.out 3).trans rfl
      have f0 := blk_frozen HS2.out 3
      go_wp2
      go_roundw
      case rel => exact ⟨4, rfl, ⟨by decide⟩, ⟨(blk_set HS2.out 3 _).trans rfl⟩, ⟨blk_far HO.out (by show w.heap.size + 1 + 1 ≠ w.heap.size; omega) _⟩, ⟨below_set HB.out (Nat.le_refl _)⟩⟩
      case measure => simp [intOf]
    · have HS2 := Aside0.mk (show wr.heap[w.heap.size]? = some (.cells #[(.int .u64 (bits .or .u64 a a')), (.int .u64 (bits .or .u64 b b')), (.int .u64 (bits .or .u64 c c')), (.int .u64 (bits .or .u64 d d'))] 31 (0, 0)) from HS.out)
      have k0 : wr.cell? ⟨w.heap.size, 0, none⟩ = some (.int .u64 (bits .or .u64 a a')) := (blk_cell HS2.out 0).trans rfl
      have k1 : wr.cell? ⟨w.heap.size, 1, none⟩ = some (.int .u64 (bits .or .u64 b b')) := (blk_cell HS2.out 1).trans rfl
      have k2 : wr.cell? ⟨w.heap.size, 2, none⟩ = some (.int .u64 (bits .or .u64 c c')) := (blk_cell HS2.out 2).trans rfl
      have k3 : wr.cell? ⟨w.heap.size, 3, none⟩ = some (.int .u64 (bits .or .u64 d d')) := (blk_cell HS2.out 3).trans rfl
      have o0 : wr.cell? ⟨w.heap.size + 1 + 1, 0, none⟩ = some (.int .u64 0) := (blk_cell HO.out 0).trans rfl
      have f0 := blk_frozen HO.out 0
      have o1 : wr.cell? ⟨w.heap.size + 1 + 1, 1, none⟩ = some (.int .u64 0) := (blk_cell HO.out 1).trans rfl
      have f1 := blk_frozen HO.out 1
      have o2 : wr.cell? ⟨w.heap.size + 1 + 1, 2, none⟩ = some (.int .u64 0) := (blk_cell HO.out 2).trans rfl
      have f2 := blk_frozen HO.out 2
      have o3 : wr.cell? ⟨w.heap.size + 1 + 1, 3, none⟩ = some (.int .u64 0) := (blk_cell HO.out 3).trans rfl
      have f3 := blk_frozen HO.out 3
      go_wp2
      (try simp only [Exit.inBlock, Exit.then])
      refine bodyPost_ret (ret_set ⟨bits .or .u64 a a', bits .or .u64 b b', bits .or .u64 c c', bits .or .u64 d d'⟩ rfl rfl (put4_at HO.out ⟨bits .or .u64 a a', bits .or .u64 b b', bits .or .u64 c c', bits .or .u64 d d'⟩)) rfl ?_
      exact ⟨rfl, put4_below HB.out (by omega) ⟨bits .or .u64 a a', bits .or .u64 b b', bits .or .u64 c c', bits .or .u64 d d'⟩⟩
theorem eq4 (k : Nat) (a b c d a' b' c' d' : Int) (w : World) :
   (Op.equalIn (k + 2) 31 (.agg #[.int .u64 a, .int .u64 b, .int .u64 c, .int .u64 d]) (.agg #[.int .u64 a', .int .u64 b', .int .u64 c', .int .u64 d'])).run Try.prog w = .ok (a == a' && (b == b' && (c == c' && d == d'))) w := by
  have hu29 := Try.underlying29
  obtain ⟨i29, hi29⟩ : ∃ i, Try.prog.info? 29 = some i := Option.isSome_iff_exists.mp (show (Try.prog.info? 29).isSome = true by kernel_rfl)
  rw [run_equalIn_array (P := Try.prog) w (k + 1) (t := 31) (e := 29) (n := 4) _ _ Try.underlying31 hi29, show Try.prog.cellsOf 29 = 1 by kernel_rfl]
  simp only [show List.range 4 = [0, 1, 2, 3] by decide, Op.eqItems]
  go_simp
  by_cases h1 : a = a' <;> by_cases h2 : b = b' <;> by_cases h3 : c = c' <;> by_cases h4 : d = d' <;> simp [*]
section
attribute [local go_sem high] eq4
def listS (s : SS) : List Int := ((List.range 256).map (fun (n : Nat) => (n : Int))).filter (hasS s)
def upS (s : SS) (n : Nat) : List Int := ((List.range n).map (fun (n : Nat) => (n : Int))).filter (hasS s)
theorem upS_succ (s : SS) (n : Nat) : upS s (n + 1) = if hasS s (n : Int) = true then upS s n ++ [(n : Int)] else upS s n := by
  unfold upS
  rw [List.range_succ, List.map_append, List.filter_append]
  by_cases h : hasS s (n : Int) = true
  · simp [h]
  · simp [h]
theorem upS_len (s : SS) (n : Nat) : (upS s n).length ≤ n := by
  unfold upS
  refine Nat.le_trans (List.length_filter_le _ _) ?_
  simp
theorem upS_nil (s : SS) (h : s = zeroS) (n : Nat) : upS s n = [] := by
  subst h
  induction n with
  | zero => rfl
  | succ n ih =>
    rw [upS_succ, ih, if_neg]
    unfold hasS
    have : (SS.get zeroS ((n : Int) / 64)) = 0 := by unfold SS.get zeroS; split <;> (try split) <;> (try split) <;> rfl
    rw [this, Int.zero_ediv]
    decide
set_option maxHeartbeats 8000000 in
set_option maxRecDepth 100000 in
theorem list_calls (s : SS) (w : World) :
    Calls Try.prog 24 #[s.val] w fun e w' => ∃ v0_ : Value, e = .returned v0_ ∧ Kd.R (Kd.int .u8) 5 w' w.heap.size (fun _ => True) v0_ (listS s) ∧ Below w.heap.size w w' := by
  have HN := Aside0.mk (upS_nil s)
  have HF := Aside0.mk (show listS s = upS s 256 from rfl)
  have HSU := Aside0.mk (upS_succ s)
  have HLN := Aside0.mk (upS_len s)
  have HH := Aside0.mk (fun (x : Int) (w : World) => has_calls s x w)
  generalize listS s = L at HF ⊢
  generalize upS s = U at HN HF HSU HLN
  generalize hasS s = hf at HSU HH
  obtain ⟨a, b, c, d⟩ := s
  have hu31 := Try.underlying31
  unfold SS.val at HH ⊢
  dsimp only at HH ⊢
  cases he : (a == 0 && (b == 0 && (c == 0 && d == 0)))
  · go_enter Try.func24, Try.ntmps24
    go_wp2
    go_loopw [3, 8] (fun v3 v8 wr => ∃ n : Nat, v8 = .int .i64 (n : Int) ∧ Aside0 (n ≤ 256) ∧ Aside0 (Kd.R (Kd.int .u8) 5 wr w.heap.size (fun k => k ≠ w.heap.size) v3 (U n)) ∧ Aside0 (wr.heap[w.heap.size]? = some (.cells (SS.cs ⟨a, b, c, d⟩) 31 (0, 0))) ∧ Aside0 (Below w.heap.size w wr)) (fun _ i _ => 256 - (intOf i).toNat)
    case atStart =>
      refine ⟨0, rfl, ⟨by omega⟩, ⟨?_⟩, ⟨blk_new w _⟩, ⟨by repeat (first | exact Below.refl _ _ | apply below_alloc)⟩⟩
      have h0 : U 0 = [] := List.length_eq_zero_iff.mp (Nat.le_zero.mp (HLN.out 0))
      rw [h0]
      exact Kd.R_nil _ _ _ _ _
    case round =>
      obtain ⟨n, rfl, HL, HR, HS, HB⟩ := hrel
      by_cases hlt : n < 256
      · have c2b0 : decide ((n : Int) < 256) = true := decide_eq_true (by omega)
        have c2b1 : decide (n < 256) = true := decide_eq_true hlt
        have hm : (n : Int) % 256 = (n : Int) := by omega
        have hw8 : IntKind.u8.wrap (n : Int) = (n : Int) := IntWalk.u8_in _ (by omega)
        have HW := Aside0.mk (show wrap64 ((n : Int) + 1) = ((n + 1 : Nat) : Int) by unfold wrap64; omega)
        have k0 : wr.cell? ⟨w.heap.size, 0, none⟩ = some (.int .u64 a) := (blk_cell HS.out 0).trans rfl
        have k1 : wr.cell? ⟨w.heap.size, 1, none⟩ = some (.int .u64 b) := (blk_cell HS.out 1).trans rfl
        have k2 : wr.cell? ⟨w.heap.size, 2, none⟩ = some (.int .u64 c) := (blk_cell HS.out 2).trans rfl
        have k3 : wr.cell? ⟨w.heap.size, 3, none⟩ = some (.int .u64 d) := (blk_cell HS.out 3).trans rfl
        have hc := Aside0.mk (fun w => HH.out (n : Int) w (by omega) (by omega))
        have hs := HSU.out n
        have HLT := Aside0.mk hlt
        clear hlt
        cases hq : hf (n : Int)
        · rw [hq] at hs hc
          have HU := Aside0.mk (show U (n + 1) = U n by simpa using hs)
          clear hs
          go_wp2_with fail
          refine (hc.out _).mono ?_
          rintro e w3 ⟨rfl, hb3⟩
          have HS3 := Aside0.mk (blk_below HS.out hb3)
          have HR3 := Aside0.mk (Kd.R_below HR.out hb3)
          have HB3 := Aside0.mk (below_step HB.out hb3)
          go_wp2
          go_roundw
          case rel => exact ⟨n + 1, by first | (rw [HW.out]; done) | rfl, ⟨HLT.out⟩, ⟨by rw [HU.out]; exact HR3.out⟩, ⟨HS3.out⟩, ⟨HB3.out⟩⟩
          case measure => have := HLT.out; (try rw [HW.out]); simp [intOf]; omega
        · rw [hq] at hs hc
          have HU := Aside0.mk (show U (n + 1) = U n ++ [(n : Int)] by simpa using hs)
          clear hs
          have HLIM := Aside0.mk (show ((U n).length + 1) * 1 ≤ 140737488355328 by have := HLN.out n; have := HLT.out; omega)
          go_wp2_with fail
          refine (hc.out _).mono ?_
          rintro e w3 ⟨rfl, hb3⟩
          have HS3 := Aside0.mk (blk_below HS.out hb3)
          have HR3 := Aside0.mk (Kd.R_below HR.out hb3)
          have HB3 := Aside0.mk (below_step HB.out hb3)
          clear k0 k1 k2 k3
          go_wp2_with (at_builtin; refine Kd.R_append (Kd.int .u8) (w0 := w) w.heap.size rfl (.tmp 15) (.tmp 18) 22 5 (.int .u8 0) 1 rfl Try.underlying22 info5 rfl (by decide) (by decide) _ (U n) (n : Int) [.int .u8 (n : Int)] (fun k => k ≠ w.heap.size) (fun _ => False) rfl rfl rfl (fun _ h => h.elim) (fun k hk => by have h1 := HB3.out.size; have h2 := blk_lt HS3.out; omega) HR3.out HB3.out HB3.out.size HLIM.out ?_; intro v1 w1 hr1 hb1 hg1 hat1)
          go_roundw
          case rel => exact ⟨n + 1, by first | (rw [HW.out]; done) | rfl, ⟨HLT.out⟩, ⟨by rw [HU.out]; exact hr1⟩, ⟨blk_grown HS3.out hg1 (fun e => HR3.out.1 _ e.symm rfl)⟩, ⟨hb1⟩⟩
          case measure => have := HLT.out; (try rw [HW.out]); simp [intOf]; omega
      · have c2b0 : decide ((n : Int) < 256) = false := decide_eq_false (by omega)
        have c2b1 : decide (n < 256) = false := decide_eq_false hlt
        obtain rfl : n = 256 := by have := HL.out; omega
        clear hlt
        go_wp2
        go_ret
        exact ⟨_, rfl, by rw [HF.out]; exact Kd.R_mono HR.out (fun _ _ => trivial), HB.out⟩
  · go_enter Try.func24, Try.ntmps24
    go_wp2
    go_ret
    exact ⟨_, rfl, by
      have hz : (⟨a, b, c, d⟩ : SS) = zeroS := by
        simp only [Bool.and_eq_true, beq_iff_eq] at he
        obtain ⟨rfl, rfl, rfl, rfl⟩ := he
        rfl
      rw [HF.out, HN.out hz]
      exact Kd.R_nil _ _ _ _ _, by repeat (first | exact Below.refl _ _ | apply below_alloc)⟩
end
def SS.tup (s : SS) : Int × Int × Int × Int := (s.a, s.b, s.c, s.d)
theorem SS.val_of {s : SS} {r1 r2 r3 r4 : Int} (h : s.tup = (r1, r2, r3, r4)) : s.val = .agg #[.int .u64 r1, .int .u64 r2, .int .u64 r3, .int .u64 r4] := by
  obtain ⟨a, b, c, d⟩ := s
  injection h with h1 h
  injection h with h2 h
  injection h with h3 h4
  subst h1; subst h2; subst h3; subst h4; rfl
def fold_Set_With.f (a0_0 : Int) (a0_1 : Int) (a0_2 : Int) (a0_3 : Int) (a1 : Int) : Option (Int × Int × Int × Int) := if 0 ≤ a1 ∧ a1 < 256 then some (withS ⟨a0_0, a0_1, a0_2, a0_3⟩ a1).tup else none
theorem fold_Set_With.calls (a0_0 : Int) (a0_1 : Int) (a0_2 : Int) (a0_3 : Int) (a1 : Int) (r1 : Int) (r2 : Int) (r3 : Int) (r4 : Int) (w : World) (h : fold_Set_With.f a0_0 a0_1 a0_2 a0_3 a1 = some (r1, r2, r3, r4)) :
    Calls Try.prog 20 #[.agg #[.int .u64 a0_0, .int .u64 a0_1, .int .u64 a0_2, .int .u64 a0_3], .int .u8 a1] w fun e w' => e = .returned (.agg #[.int .u64 r1, .int .u64 r2, .int .u64 r3, .int .u64 r4]) ∧ Below w.heap.size w w' := by
  unfold fold_Set_With.f at h
  by_cases hb : 0 ≤ a1 ∧ a1 < 256
  · rw [if_pos hb] at h
    rw [← SS.val_of (Option.some.inj h)]
    exact with_calls ⟨a0_0, a0_1, a0_2, a0_3⟩ a1 w hb.1 hb.2
  · rw [if_neg hb] at h
    cases h

def fold_Of.f (l0 : List Int) : Option (Int × Int × Int × Int) := if ∀ x ∈ l0, 0 ≤ x ∧ x < 256 then some (ofS l0).tup else none
theorem fold_Of.calls (A0 : Option Addr) (c0 : Nat) (l0 : List Int) (r1 : Int) (r2 : Int) (r3 : Int) (r4 : Int) (w : World) (hr0 : Kd.C (Kd.int .u8) w A0 l0.length l0) (hc0 : l0.length ≤ c0) (h : fold_Of.f l0 = some (r1, r2, r3, r4)) :
    Calls Try.prog 17 #[.slice A0 l0.length c0] w fun e w' => e = .returned (.agg #[.int .u64 r1, .int .u64 r2, .int .u64 r3, .int .u64 r4]) ∧ Below w.heap.size w w' := by
  unfold fold_Of.f at h
  by_cases hb : ∀ x ∈ l0, 0 ≤ x ∧ x < 256
  · rw [if_pos hb] at h
    rw [← SS.val_of (Option.some.inj h)]
    exact of_calls A0 c0 l0 w hr0 hc0 hb
  · rw [if_neg hb] at h
    cases h

def fold_Set_Len.f (a0_0 : Int) (a0_1 : Int) (a0_2 : Int) (a0_3 : Int) : Option Int := some (lenS ⟨a0_0, a0_1, a0_2, a0_3⟩)
theorem fold_Set_Len.calls (a0_0 : Int) (a0_1 : Int) (a0_2 : Int) (a0_3 : Int) (r : Int) (w : World) (h : fold_Set_Len.f a0_0 a0_1 a0_2 a0_3 = some r) :
    Calls Try.prog 19 #[.agg #[.int .u64 a0_0, .int .u64 a0_1, .int .u64 a0_2, .int .u64 a0_3]] w fun e w' => e = .returned (.int .i64 r) ∧ Below w.heap.size w w' := by
  obtain rfl := Option.some.inj h
  exact len_calls ⟨a0_0, a0_1, a0_2, a0_3⟩ w

def fold_Set_Has.f (a0_0 : Int) (a0_1 : Int) (a0_2 : Int) (a0_3 : Int) (a1 : Int) : Option Bool := if 0 ≤ a1 ∧ a1 < 256 then some (hasS ⟨a0_0, a0_1, a0_2, a0_3⟩ a1) else none
theorem fold_Set_Has.calls (a0_0 : Int) (a0_1 : Int) (a0_2 : Int) (a0_3 : Int) (a1 : Int) (r : Bool) (w : World) (h : fold_Set_Has.f a0_0 a0_1 a0_2 a0_3 a1 = some r) :
    Calls Try.prog 22 #[.agg #[.int .u64 a0_0, .int .u64 a0_1, .int .u64 a0_2, .int .u64 a0_3], .int .u8 a1] w fun e w' => e = .returned (.bool r) ∧ Below w.heap.size w w' := by
  unfold fold_Set_Has.f at h
  by_cases hb : 0 ≤ a1 ∧ a1 < 256
  · rw [if_pos hb] at h
    obtain rfl := Option.some.inj h
    exact has_calls ⟨a0_0, a0_1, a0_2, a0_3⟩ a1 w hb.1 hb.2
  · rw [if_neg hb] at h
    cases h

end Go.Proofs.Ytaegjpabkkoleaa.PFoldRaw
